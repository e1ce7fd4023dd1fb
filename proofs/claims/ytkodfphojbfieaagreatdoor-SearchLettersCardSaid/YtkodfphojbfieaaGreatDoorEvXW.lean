/- Runs of simplified code that can be computed. -/
import Derived.Test.YtkodfphojbfieaaGreatDoorEvMW
import Derived.Test.YtkodfphojbfieaaGreatDoorEvBitsCW
import Derived.Test.YtkodfphojbfieaaGreatDoorEvSW
set_option linter.unusedVariables false
set_option linter.unusedSimpArgs false
namespace Go.Ev
open Go Go.RowKit
mutual
/-- Alike. -/
def veq : V → V → Bool
 | .undef, .undef => true
 | .skp, .skp => true
 | .any, .any => true
 | .int k a, .int k' b => decide (k = k') && a == b
 | .bool a, .bool b => a == b
 | .str a, .str b => a == b
 | .nilp, .nilp => true
 | .ptr a b, .ptr c d => a == c && b == d
 | .cptr a, .cptr b => veqL a b
 | .vs a t, .vs b u => veqLL a b && decide (t = u)
 | .rs a b c d, .rs a' b' c' d' => a == a' && b == b' && c == c' && d == d'
 | .fn f c, .fn g d => f == g && veqL c d
 | .nilf, .nilf => true
 | .agg a, .agg b => veqL a b
 | .tup a, .tup b => veqL a b
 | .mp a, .mp b => a == b
 | .nilm, .nilm => true
 | .yld a, .yld b => a == b
 | _, _ => false
def veqL : List V → List V → Bool
 | [], [] => true
 | a :: as, b :: bs => veq a b && veqL as bs
 | _, _ => false
def veqLL : List (List V) → List (List V) → Bool
 | [], [] => true
 | a :: as, b :: bs => veqL a b && veqLL as bs
 | _, _ => false
end
mutual
theorem veq_eq : ∀ {a b : V}, veq a b = true → a = b
 | .undef, b, h => by cases b <;> simp [veq] at h; rfl
 | .skp, b, h => by cases b <;> simp [veq] at h; rfl
 | .any, b, h => by cases b <;> simp [veq] at h; rfl
 | .int _ _, b, h => by cases b <;> simp [veq] at h; rw [h.1, h.2]
 | .bool _, b, h => by cases b <;> simp [veq] at h; rw [h]
 | .str _, b, h => by cases b <;> simp [veq] at h; rw [h]
 | .nilp, b, h => by cases b <;> simp [veq] at h; rfl
 | .ptr _ _, b, h => by cases b <;> simp [veq] at h; rw [h.1, h.2]
 | .cptr _, b, h => by cases b <;> simp [veq] at h; rw [veqL_eq h]
 | .vs _ _, b, h => by cases b <;> simp [veq] at h; rw [veqLL_eq h.1, h.2]
 | .rs _ _ _ _, b, h => by cases b <;> simp [veq] at h; rw [h.1.1.1, h.1.1.2, h.1.2, h.2]
 | .fn _ _, b, h => by cases b <;> simp [veq] at h; rw [h.1, veqL_eq h.2]
 | .nilf, b, h => by cases b <;> simp [veq] at h; rfl
 | .agg _, b, h => by cases b <;> simp [veq] at h; rw [veqL_eq h]
 | .tup _, b, h => by cases b <;> simp [veq] at h; rw [veqL_eq h]
 | .mp _, b, h => by cases b <;> simp [veq] at h; rw [h]
 | .nilm, b, h => by cases b <;> simp [veq] at h; rfl
 | .yld _, b, h => by cases b <;> simp [veq] at h; rw [h]
theorem veqL_eq : ∀ {a b : List V}, veqL a b = true → a = b
 | [], b, h => by cases b <;> simp [veqL] at h; rfl
 | _ :: _, b, h => by cases b <;> simp [veqL] at h; rw [veq_eq h.1, veqL_eq h.2]
theorem veqLL_eq : ∀ {a b : List (List V)}, veqLL a b = true → a = b
 | [], b, h => by cases b <;> simp [veqLL] at h; rfl
 | _ :: _, b, h => by cases b <;> simp [veqLL] at h; rw [veqL_eq h.1, veqLL_eq h.2]
end
def peq : List (V × V) → List (V × V) → Bool
 | [], [] => true
 | a :: as, b :: bs => veq a.1 b.1 && veq a.2 b.2 && peq as bs
 | _, _ => false
theorem peq_eq : ∀ {a b : List (V × V)}, peq a b = true → a = b
 | [], b, h => by cases b <;> simp [peq] at h; rfl
 | (a1, a2) :: as, b, h => by
  cases b with
  | nil => simp [peq] at h
  | cons b bs =>
   obtain ⟨b1, b2⟩ := b
   simp [peq] at h
   rw [veq_eq h.1.1, veq_eq h.1.2, peq_eq h.2]
def beqB : Option Blk → Option Blk → Bool
 | none, none => true
 | some (.cells a), some (.cells b) => veqL a b
 | some (.zone a), some (.zone b) => a == b
 | some (.froz a), some (.froz b) => veqL a b
 | some (.map a), some (.map b) => peq a b
 | some (.siter a i), some (.siter b j) => a == b && i == j
 | _, _ => false
theorem beqB_eq {a b : Option Blk} (h : beqB a b = true) : a = b := by
 cases a with
 | none => cases b <;> simp [beqB] at h; rfl
 | some a =>
  cases b with
  | none => cases a <;> simp [beqB] at h
  | some b =>
   cases a <;> cases b <;> simp [beqB] at h
   ·rw [veqL_eq h]
   ·rw [h]
   ·rw [veqL_eq h]
   ·rw [peq_eq h]
   ·rw [h.1, h.2]
def heqB : Heap → Heap → Bool
 | [], [] => true
 | a :: as, b :: bs => beqB a b && heqB as bs
 | _, _ => false
theorem heqB_eq : ∀ {a b : Heap}, heqB a b = true → a = b
 | [], b, h => by cases b <;> simp [heqB] at h; rfl
 | _ :: _, b, h => by cases b <;> simp [heqB] at h; rw [beqB_eq h.1, heqB_eq h.2]
inductive In where
 | F (f : Nat) (args : List V) (H : Heap)
 | S (base : Nat) (o : SOper) (e : Env) (H : Heap)
 | O (base : Nat) (os : List SOper) (e : Env) (H : Heap)
 | C (c : SCode) (e : Env) (H : Heap)
 | L (n : Nat) (l : List Nat) (c : SCode) (e : Env) (H : Heap)
inductive Out where
 | F (r : V) (H : Heap)
 | E (e : Env) (H : Heap)
 | C (x : Ex) (e : Env) (H : Heap)
def IsRun (G : Tbl) : In → Out → Prop
 | .F f args H, .F r H' => Big G (.F f args H r H')
 | .S base o e H, .E e' H' => Big G (.S base o e H e' H')
 | .O base os e H, .E e' H' => Big G (.O base os e H e' H')
 | .C c e H, .C x e' H' => Big G (.C c e H x e' H')
 | .L n l c e H, .C x e' H' => Big G (.L n l c e H x e' H')
 | _, _ => False
def beqO : Option (Option Blk) → Option (Option Blk) → Bool
 | some a, some b => beqB a b
 | none, none => true
 | _, _ => false
def leavesB (e : Env) (rs : List Nat) (H H1 : Heap) : Bool := rs.all fun r => match (e r).ptrId? with | some id => beqO H1[id]? H[id]? | none => true
theorem leavesB_ok {e : Env} {rs : List Nat} {H H1 : Heap} (h : leavesB e rs H H1 = true) : Leaves e rs H H1 := by
 intro r hr id hid
 have := List.all_eq_true.1 h r hr
 simp only [hid] at this
 unfold beqO at this
 split at this
 ·rename_i a b h1 h2; rw [h1, h2, beqB_eq this]
 ·rename_i h1 h2; rw [h1, h2]
 ·cases this
def keqB (n : Nat) : List (Nat × V) → Bool
 | [] => true
 | (_, v) :: l => veq (v.cl n) v && keqB n l
theorem keqB_ok (n : Nat) : ∀ {l : List (Nat × V)}, keqB n l = true → l.map (fun p => (p.1, p.2.cl n)) = l
 | [], _ => rfl
 | (i, v) :: l, h => by
  simp only [keqB, Bool.and_eq_true] at h
  simp only [List.map_cons, veq_eq h.1, keqB_ok n h.2]
def clB (n : Nat) : Option Blk → Bool
 | some (.loop e _ _ _ .ready) => keqB n e
 | some (.loop e _ _ _ .busy) => keqB n e
 | b => beqB (b.map (Blk.cl n)) b
theorem clB_ok (n : Nat) {b : Option Blk} (h : clB n b = true) : b.map (Blk.cl n) = b := by
 unfold clB at h
 split at h
 ·simp only [Option.map_some, Blk.cl, keqB_ok n h]
 ·simp only [Option.map_some, Blk.cl, keqB_ok n h]
 ·exact beqB_eq h
def elderB (base : Nat) (args : List V) (H H' : Heap) : Bool := args.all (fun v => veq (v.cl base) v) && H.all (clB base) && heqB (H'.drop base) (H.drop base)
theorem elderB_ok {base : Nat} {args : List V} {H H' : Heap} (h : elderB base args H H' = true) : Elder base args H H' := by
 simp only [elderB, Bool.and_eq_true, List.all_eq_true] at h
 refine ⟨fun v hv => veq_eq (h.1.1 v hv), ?_, heqB_eq h.2⟩
 conv => rhs; rw [← List.map_id H]
 exact List.map_congr_left fun b hb => clB_ok base (h.1.2 b hb)
def execS (G : Tbl) (ex : In → Option Out) : In → Option Out
 | .F f args H => match G f with
  | some fn => if args.length ≤ fn.nt then
    match ex (.C fn.body (envOf args) H) with
    | some (.C x e' H') => match x with
     | .exit _ => none
     | _ => match evRess e' H' fn.res with
      | some vs => some (.F (resOf vs) H')
      | none => none
    | _ => none
   else none
  | none => none
 | .S base o e H => match wanted e o with
  | some true => match o.op with
   | .pcall f xs => match ex (.F f (outL (xs.map (X.ev e))) []) with
    | some (.F r H1) => some (.E (e.put o.dst (frz H1 r).out) H)
    | _ => none
   | .scall f xs => match ex (.F f (xs.map (X.ev e)) H) with
    | some (.F r H1) => some (.E (e.put o.dst (r.cl H.length)) (trunc H.length H1))
    | _ => none
   | .scallA rs f xs => match ex (.F f (xs.map (X.ev e)) H) with
    | some (.F r H1) => if leavesB e rs H (trunc H.length H1) = true then some (.E (e.put o.dst (r.cl H.length)) (trunc H.length H1)) else none
    | _ => none
   | .scallE f xs => match ex (.F f (xs.map (X.ev e)) H) with
    | some (.F r H1) => if elderB base (xs.map (X.ev e)) H (trunc H.length H1) = true then some (.E (e.put o.dst (r.cl H.length)) (trunc H.length H1)) else none
    | _ => none
   | .kcall true _ _ => none
   | .kcall false f xs => match ex (.F f (xs.map (X.ev e)) H) with
    | some (.F r H1) => some (.E (e.put o.dst r) H1)
    | _ => none
   | .vcall ro fx xs => match fx.ev e with
    | .fn f cap => match ex (.F f (xs.map (X.ev e) ++ cap) H) with
     | some (.F r H1) => if !ro || heqB (trunc H.length H1) H then some (.E (e.put o.dst (r.cl H.length)) (trunc H.length H1)) else none
     | _ => none
    | .yld id => match ro with
     | true => none
     | false => match H[id]? with
      | some (some (.loop e0 ps as bo .ready)) => if xs.length = ps.length then
        match ex (.C as (putP ps (xs.map (X.ev e)) (mkE e0)) H) with
        | some (.C .nx e1 H1) => match H1[id]? with
         | some (some (.loop f0 fps fas fbo .ready)) => match ex (.C bo e1 (H1.set id (some (.loop f0 fps fas fbo .busy)))) with
          | some (.C x e2 H2) => match H2[id]? with
           | some (some (.loop g0 gps gas gbo .busy)) => some (.E (e.put o.dst (.bool (decide (x = .nx)))) (trunc H.length (H2.set id (some (.loop g0 gps gas gbo (if x = .nx then .ready else .done x))))))
           | _ => none
          | _ => none
         | _ => none
        | _ => none
       else none
      | _ => none
    | _ => none
   | op => match ev1 base e H op with
    | some (v, H1) => some (.E (e.put o.dst v) H1)
    | none => none
  | some false => some (.E (e.put o.dst .skp) H)
  | none => none
 | .O base os e H => match os with
  | [] => some (.E e H)
  | o :: os => match ex (.S base o e H) with
   | some (.E e1 H1) => ex (.O base os e1 H1)
   | _ => none
 | .C c e H => match c with
  | .skip => some (.C .nx e H)
  | .region m ops => match ex (.O H.length ops e (H ++ List.replicate m none)) with
   | some (.E e1 H1) => some (.C .nx e1 H1)
   | _ => none
  | .seq a b => match ex (.C a e H) with
   | some (.C x e1 H1) => match x with
    | .nx => ex (.C b e1 H1)
    | x => some (.C x e1 H1)
   | _ => none
  | .cond c a b => match c.ev e with
   | .bool t => match t with
    | true => ex (.C a e H)
    | false => ex (.C b e H)
   | _ => none
  | .block id c => match ex (.C c e H) with
   | some (.C x e1 H1) => some (.C (if x = .exit id then .nx else x) e1 H1)
   | _ => none
  | .loop l c => ex (.L H.length l c e H)
  | .exit id => some (.C (.exit id) e H)
  | .ret => some (.C .ret e H)
  | .keep l => some (.C .nx (keepE l e) H)
  | .give t off => match giveIt e H t off with
   | some (e1, H1) => some (.C .nx e1 H1)
   | none => none
  | .freeze t => match frzIt e H t with
   | some (e1, H1) => some (.C .nx e1 H1)
   | none => none
  | .rangeF g l ps as bo => match g.ev e with
   | .fn f cap => match ex (.F f (.yld H.length :: cap) (H ++ [some (.loop (look e l) ps as bo .ready)])) with
    | some (.F _ H1) => match H1[H.length]? with
     | some (some (.loop _ _ _ _ .ready)) => some (.C .nx e (trunc H.length H1))
     | some (some (.loop _ _ _ _ (.done x))) => match x with
      | .nx => none
      | x => some (.C x e (trunc H.length H1))
     | _ => none
    | _ => none
   | _ => none
 | .L n l c e H => match ex (.C c ((keepE l e).cl n) (trunc n H)) with
  | some (.C x e1 H1) => match x with
   | .nx => ex (.L n l c e1 H1)
   | x => some (.C x e1 H1)
  | _ => none
def exec (G : Tbl) : Nat → In → Option Out
 | 0, _ => none
 | k + 1, i => execS G (exec G k) i
theorem execS_sound {G : Tbl} {ex : In → Option Out} (hx : ∀ i o, ex i = some o → IsRun G i o) : ∀ i o, execS G ex i = some o → IsRun G i o := by
 intro i o h
 cases i with
 | F f args H =>
  simp only [execS] at h
  split at h
  case h_2 => cases h
  rename_i fn hf
  split at h
  case isFalse => cases h
  rename_i hl
  split at h
  case h_2 => cases h
  rename_i x e' H' hb
  have hb := hx _ _ hb
  simp only [IsRun] at hb
  split at h
  ·cases h
  rename_i hne
  split at h
  case h_2 => cases h
  rename_i vs hvs
  cases h
  refine Big.fn hf hl hb ?_ hvs
  cases x with
  | nx => exact .inl rfl
  | ret => exact .inr rfl
  | exit k => exact absurd rfl (hne k)
 | S base o e H =>
  simp only [execS] at h
  split at h
  case h_3 => cases h
  ·rename_i hw
   split at h
   ·rename_i f xs hop
    split at h
    case h_2 => cases h
    rename_i r H1 hb
    cases h
    exact Big.pcall hw hop (hx _ _ hb)
   ·rename_i f xs hop
    split at h
    case h_2 => cases h
    rename_i r H1 hb
    cases h
    exact Big.scall hw hop (hx _ _ hb)
   ·rename_i rs f xs hop
    split at h
    case h_2 => cases h
    rename_i r H1 hb
    split at h
    case isFalse => cases h
    rename_i hlv
    cases h
    exact Big.scallA hw hop (hx _ _ hb) (leavesB_ok hlv)
   ·rename_i f xs hop
    split at h
    case h_2 => cases h
    rename_i r H1 hb
    split at h
    case isFalse => cases h
    rename_i hlv
    cases h
    exact Big.scallE hw hop (hx _ _ hb) (elderB_ok hlv)
   ·cases h
   ·rename_i f xs hop
    split at h
    case h_2 => cases h
    rename_i r H1 hb
    cases h
    exact Big.kcall hw hop (hx _ _ hb) (fun h => by cases h)
   ·rename_i ro fx xs hop
    split at h
    case h_3 => cases h
    ·rename_i f cap hfx
     split at h
     case h_2 => cases h
     rename_i r H1 hb
     split at h
     case isFalse => cases h
     rename_i hro
     cases h
     exact Big.vcall hw hop hfx (hx _ _ hb) (fun h => by
      subst h
      simp only [Bool.not_true, Bool.false_or] at hro
      exact heqB_eq hro)
    ·rename_i id hfx
     split at h
     ·cases h
     split at h
     case h_2 => cases h
     rename_i hb
     split at h
     case isFalse => cases h
     rename_i hl
     split at h
     case h_2 => cases h
     rename_i ha
     split at h
     case h_2 => cases h
     rename_i hb1
     split at h
     case h_2 => cases h
     rename_i hbo
     split at h
     case h_2 => cases h
     rename_i hb2
     cases h
     exact Big.ycall hw hop hfx hb hl (hx _ _ ha) hb1 (hx _ _ hbo) hb2
   ·split at h
    case h_2 => cases h
    rename_i v H1 hv
    cases h
    exact Big.ev hw hv
  ·rename_i hw
   cases h
   exact Big.skip hw
 | O base os e H =>
  simp only [execS] at h
  split at h
  ·cases h; exact Big.nil
  ·split at h
   case h_2 => cases h
   rename_i e1 H1 hb
   have h2 := hx _ _ h
   cases o <;> simp only [IsRun] at h2
   exact Big.cons (hx _ _ hb) h2
 | C c e H =>
  cases c with
  | skip => simp only [execS, Option.some.injEq] at h; subst h; exact Big.cskip
  | region m ops =>
   simp only [execS] at h
   split at h
   case h_2 => cases h
   rename_i hb; cases h; exact Big.region (hx _ _ hb)
  | seq a b =>
   simp only [execS] at h
   split at h
   case h_2 => cases h
   rename_i x e1 H1 hb
   split at h
   ·have h2 := hx _ _ h
    cases o <;> simp only [IsRun] at h2
    exact Big.seqN (hx _ _ hb) h2
   ·rename_i hne
    cases h
    exact Big.seqX (hx _ _ hb) (fun h => hne h)
  | cond c a b =>
   simp only [execS] at h
   split at h
   case h_2 => cases h
   rename_i t ht
   split at h
   ·have h2 := hx _ _ h
    cases o <;> simp only [IsRun] at h2
    exact Big.cond ht h2
   ·have h2 := hx _ _ h
    cases o <;> simp only [IsRun] at h2
    exact Big.cond ht h2
  | block id c =>
   simp only [execS] at h
   split at h
   case h_2 => cases h
   rename_i hb; cases h; exact Big.block (hx _ _ hb)
  | loop l c =>
   simp only [execS] at h
   have h2 := hx _ _ h
   cases o <;> simp only [IsRun] at h2
   exact Big.loop h2
  | exit id => simp only [execS, Option.some.injEq] at h; subst h; exact Big.exit
  | ret => simp only [execS, Option.some.injEq] at h; subst h; exact Big.ret
  | keep l => simp only [execS, Option.some.injEq] at h; subst h; exact Big.keep
  | give t off =>
   simp only [execS] at h
   split at h
   case h_2 => cases h
   rename_i hb; cases h; exact Big.give hb
  | freeze t =>
   simp only [execS] at h
   split at h
   case h_2 => cases h
   rename_i hb; cases h; exact Big.freeze hb
  | rangeF g l ps as bo =>
   simp only [execS] at h
   split at h
   case h_2 => cases h
   rename_i f cap hg
   split at h
   case h_2 => cases h
   rename_i hf
   split at h
   case h_3 => cases h
   ·rename_i hb
    cases h
    exact Big.rangeF hg (hx _ _ hf) hb (.inl ⟨rfl, rfl⟩)
   ·rename_i hb
    split at h
    ·cases h
    ·rename_i hne
     cases h
     exact Big.rangeF hg (hx _ _ hf) hb (.inr ⟨rfl, fun h => hne h⟩)
 | L n l c e H =>
  simp only [execS] at h
  split at h
  case h_2 => cases h
  rename_i x e1 H1 hb
  split at h
  ·have h2 := hx _ _ h
   cases o <;> simp only [IsRun] at h2
   exact Big.round (hx _ _ hb) h2
  ·rename_i hne
   cases h
   exact Big.last (hx _ _ hb) (fun h => hne h)
theorem exec_sound {G : Tbl} : ∀ (k : Nat) (i : In) (o : Out), exec G k i = some o → IsRun G i o
 | 0, _, _, h => by simp [exec] at h
 | k + 1, i, o, h => execS_sound (exec_sound k) i o h
end Go.Ev
/- Answers that are computed. -/
namespace Go.Ev
open Go Go.RowKit
def isRunV (G : Tbl) (k f : Nat) (args : List V) (r : V) : Bool :=
 match exec G k (.F f args []) with
 | some (.F r1 H1) => veq (frz H1 r1).out r
 | _ => false
theorem FP_runV {G : Tbl} {k f : Nat} {args : List V} {r : V} (h : isRunV G k f args r = true) : FP G f args r := by
 unfold isRunV at h
 split at h
 ·rename_i r1 H1 hr
  exact ⟨_, _, exec_sound k _ _ hr, veq_eq h⟩
 ·cases h
end Go.Ev
/- What the functions of ins, and those of hurdleref02, compute. -/
namespace Go.Ev
open Go Go.RowKit
variable {G : Tbl}
set_option maxRecDepth 10000
set_option maxHeartbeats 2000000
set_option linter.unusedSimpArgs false
set_option linter.unusedVariables false
structure In4 where
 op : Int
 jt : Int
 jf : Int
 k : Nat
 deriving DecidableEq
def In4.cs (x : In4) : List V := [.int .i64 x.op, .int .i64 x.jt, .int .i64 x.jf, .int .u32 (x.k : Int)]
def IV (x : In4) : V := .agg x.cs
def IL (l : List In4) : List (List V) := l.map In4.cs
def FL (l : List In4) : V := .vs (IL l) .no
@[simp] theorem IL_length (l : List In4) : (IL l).length = l.length := by simp [IL]
@[simp] theorem IL_get (l : List In4) (i : Nat) : (IL l)[i]? = (l[i]?).map In4.cs := by simp [IL]
@[simp] theorem IL_nil : IL [] = [] := rfl
theorem IL_eq_nil (l : List In4) : IL l = [] ↔ l = [] := by simp [IL]
@[simp] theorem IL_snoc (l : List In4) (x : In4) : IL l ++ [x.cs] = IL (l ++ [x]) := by simp [IL]
@[simp] theorem IL_sz (l : List In4) : (∀ f ∈ IL l, f.length = 4) = True := by
 simp only [eq_iff_iff, iff_true]
 intro f hf
 simp only [IL, List.mem_map] at hf
 obtain ⟨x, _, rfl⟩ := hf
 rfl
@[simp] theorem cs_length (x : In4) : x.cs.length = 4 := rfl
abbrev Row4 := Int × List UInt8 × Bool × Bool
def rowCs (r : Row4) : List V := [.int .i64 r.1, .str r.2.1, .bool r.2.2.1, .bool r.2.2.2]
def shapeOf (op : Int) : Option Row4 := shapeRows.find? fun r => r.1 == op
theorem flat_at {α β : Type} (g : α → List β) (k : Nat) (hk : ∀ a, (g a).length = k) : ∀ (l : List α) (n : Nat) (a : α), l[n]? = some a → (((l.map g).flatten).drop (n * k)).take k = g a
 | [], n, a, h => by simp at h
 | b :: l, 0, a, h => by
  simp at h; subst h
  simp [List.take_append_of_le_length, hk]
 | b :: l, n + 1, a, h => by
  simp only [List.getElem?_cons_succ] at h
  rw [List.map_cons, List.flatten_cons, Nat.add_mul, Nat.one_mul, Nat.add_comm, ← hk b, List.drop_length_add_append]
  have := flat_at g k hk l n a h
  rw [hk b]
  exact this
theorem shapes_at {n : Nat} {r : Row4} (h : shapeRows[n]? = some r) : (g_ins_shapes.drop (n * 4)).take 4 = rowCs r := flat_at (fun r : Row4 => rowCs r) 4 (fun _ => rfl) shapeRows n r h
theorem shapes_len : g_ins_shapes.length = 156 := by decide
theorem shapes_take : g_ins_shapes.take 156 = g_ins_shapes := by rw [List.take_of_length_le]; rw [shapes_len]; exact Nat.le_refl _
theorem shapes_cl (n : Nat) : clL n g_ins_shapes = g_ins_shapes := by
 rw [clL_eq_map]
 simp [g_ins_shapes, List.map_flatten, Function.comp_def, V.cl]
def ofV (op : Int) : V := match shapeOf op with
 | some r => .tup [.agg (rowCs r), .bool true]
 | none => .tup [.agg [.int .i64 0, .str [], .bool false, .bool false], .bool false]
theorem find_none {α : Type} {p : α → Bool} {l : List α} (h : ∀ (n : Nat) (a : α), l[n]? = some a → p a = false) : l.find? p = none := by
 rw [List.find?_eq_none]
 intro a ha
 obtain ⟨n, hn⟩ := List.getElem?_of_mem ha
 simp [h n a hn]
theorem find_at {α : Type} {p : α → Bool} : ∀ {l : List α} {n : Nat} {a : α}, l[n]? = some a → p a = true → (∀ (m : Nat) (b : α), m < n → l[m]? = some b → p b = false) → l.find? p = some a
 | [], n, a, h, _, _ => by simp at h
 | b :: l, 0, a, h, hp, _ => by simp at h; subst h; simp [hp]
 | b :: l, n + 1, a, h, hp, hn => by
  rw [List.find?_cons]
  rw [hn 0 b (by omega) rfl]
  exact find_at (by simpa using h) hp fun m c hm hc => hn (m + 1) c (by omega) (by simpa using hc)
def NoRow (op : Int) (n : Nat) : Prop := ∀ (m : Nat) (b : Row4), m < n → shapeRows[m]? = some b → (b.1 == op) = false
theorem of_ok [HasIns G] (op : Int) : FP G 139 [.int .i64 op] (ofV op) := by
 refine FP_of HasIns.h_ins_of (Nat.le_of_ble_eq_true rfl) ?_
 simp [shapes_len, shapes_take]
 refine W_up 39 (fun n => [(0, .int .i64 op), (2, .ptr 0 0), (6, .agg g_ins_shapes), (7, .int .i64 n)]) (fun _ => [some (.cells [.int .i64 0, .str [], .bool false, .bool false])])
  (fun n => NoRow op n) ?_ ?_
 ·simp [keep_cl, trunc, shapes_cl]
  intro m b hm; omega
 intro n hn hall
 by_cases hlt : n < 39
 ·obtain ⟨r, hr⟩ : ∃ r, shapeRows[n]? = some r := ⟨_, List.getElem?_eq_getElem (show n < shapeRows.length from hlt)⟩
  have hs := shapes_at hr
  by_cases he : r.1 = op
  ·have : shapeOf op = some r := find_at hr (by simpa using he) hall
   simp (disch := omega) [ltT, leTn, shapes_len, hs, rowCs, he, this, ofV, -Int.natCast_add]
  ·have hall' : NoRow op (n + 1) := fun m b hm hb => by
    by_cases hmn : m = n
    ·subst hmn; rw [hr] at hb; cases hb; simpa using he
    ·exact hall m b (by omega) hb
   simp (disch := omega) [ltT, leTn, shapes_len, hs, rowCs, beqF, he, add1', hlt, keep_cl, trunc, shapes_cl, hall', -Int.natCast_add]
 ·have hne : n = 39 := by omega
  subst hne
  have : shapeOf op = none := find_none fun m b hb => hall m b (by have := (List.getElem?_eq_some_iff.1 hb).1; exact this) hb
  simp [this, ofV]
theorem shape_some {op : Int} {r : Row4} (h : shapeOf op = some r) : r.1 = op ∧ r ∈ shapeRows := by
 have h1 := List.find?_some h
 exact ⟨by simpa using h1, List.mem_of_find?_eq_some h⟩
theorem shape_none {op : Int} (h : shapeOf op = none) : ∀ r ∈ shapeRows, r.1 ≠ op := fun r hr => by
 have := List.find?_eq_none.1 h r hr
 simpa using this
def aluT (op : Int) : Int × Bool × Bool :=
 if op ∈ [4, 20, 36, 52, 68, 84, 100, 116, 164] then (op, false, true) else if op ∈ [12, 28, 44, 60, 76, 92, 108, 124, 172] then (op - 8, true, true) else (0, false, false)
def isBr (op : Int) : Bool := decide (op ∈ [21, 37, 53, 69, 29, 45, 61, 77])
def isEnd (op : Int) : Bool := decide (op = 6 ∨ op = 22)
theorem alu_none {op : Int} (h : shapeOf op = none) : aluT op = (0, false, false) := by
 have h1 : ∀ p ∈ [4, 20, 36, 52, 68, 84, 100, 116, 164, 12, 28, 44, 60, 76, 92, 108, 124, 172], ∃ r ∈ shapeRows, r.1 = p := by decide
 unfold aluT
 rw [if_neg, if_neg]
 ·intro hm
  obtain ⟨r, hr, he⟩ := h1 op (by simp only [List.mem_cons, List.not_mem_nil, or_false] at hm ⊢; omega)
  exact shape_none h r hr he
 ·intro hm
  obtain ⟨r, hr, he⟩ := h1 op (by simp only [List.mem_cons, List.not_mem_nil, or_false] at hm ⊢; omega)
  exact shape_none h r hr he
theorem br_none {op : Int} (h : shapeOf op = none) : isBr op = false := by
 have h1 : ∀ p ∈ [21, 37, 53, 69, 29, 45, 61, 77], ∃ r ∈ shapeRows, r.1 = p := by decide
 simp only [isBr, decide_eq_false_iff_not]
 intro hm
 obtain ⟨r, hr, he⟩ := h1 op hm
 exact shape_none h r hr he
theorem Ends_ok [HasIns G] (x : In4) : FP G 143 [IV x] (.bool (isEnd x.op)) := by
 refine FP_of HasIns.h_ins_Ends (Nat.le_of_ble_eq_true rfl) ?_
 simp [IV, In4.cs]
 by_cases h : x.op = 6
 ·simp [h, isEnd]
 ·by_cases h2 : x.op = 22 <;> simp [h, h2, beqF, isEnd]
theorem Branch_ok [HasIns G] (x : In4) : FP G 142 [IV x] (.bool (isBr x.op)) := by
 refine FP_of HasIns.h_ins_Branch (Nat.le_of_ble_eq_true rfl) ?_
 simp [IV, In4.cs]
 refine callP_of (of_ok x.op) ?_
 unfold ofV
 cases h : shapeOf x.op with
 | none => simp [br_none h]
 | some r =>
  obtain ⟨he, hr⟩ := shape_some h
  have key : ∀ r ∈ shapeRows, (decide (andI .i64 r.1 7 = 5) && decide (r.1 ≠ 5)) = isBr r.1 := by decide
  have key := key r hr
  rw [he] at key
  by_cases h1 : andI .i64 x.op 7 = 5
  ·by_cases h2 : x.op = 5
   ·simp [h1, h2] at key; simp [rowCs, h1, h2]; rw [h2] at h1; simp [h1]; exact key
   ·simp [h1, h2] at key; simp [rowCs, h1, h2, bneT, key]
  ·simp [h1] at key; simp [rowCs, h1, beqF, key]
theorem Alu_ok [HasIns G] (x : In4) : FP G 141 [IV x] (.tup [.int .i64 (aluT x.op).1, .bool (aluT x.op).2.1, .bool (aluT x.op).2.2]) := by
 refine FP_of HasIns.h_ins_Alu (Nat.le_of_ble_eq_true rfl) ?_
 simp [IV, In4.cs]
 refine callP_of (of_ok x.op) ?_
 unfold ofV
 cases h : shapeOf x.op with
 | none => simp [alu_none h]
 | some r =>
  obtain ⟨he, hr⟩ := shape_some h
  have key : ∀ r ∈ shapeRows, aluT r.1 = if andI .i64 r.1 7 ≠ 4 ∨ r.1 = 132 then (0, false, false) else (andnI .i64 r.1 8, decide (andI .i64 r.1 8 > 0), true) := by decide
  have key := key r hr
  rw [he] at key
  by_cases h1 : andI .i64 x.op 7 = 4
  ·by_cases h2 : x.op = 132
   ·have h3 : andI .i64 132 7 = 4 := by decide
    rw [if_pos (.inr h2)] at key; simp [rowCs, h2, h3, bneF, beqT, h2 ▸ key]
   ·rw [if_neg (by simp [h1, h2])] at key; simp [rowCs, h1, h2, bneF, beqF, key]
  ·rw [if_pos (.inl h1)] at key; simp [rowCs, h1, bneT, key]
def rightI (x : In4) : Bool := match shapeOf x.op with
 | some r => (r.2.2.1 || decide (x.k = 0)) && (if r.2.2.2 then decide (0 ≤ x.jt ∧ x.jt ≤ 255 ∧ 0 ≤ x.jf ∧ x.jf ≤ 255) else decide (x.jt = 0 ∧ x.jf = 0))
 | none => false
theorem RightI_ok [HasIns G] (x : In4) : FP G 140 [IV x] (.bool (rightI x)) := by
 refine FP_of HasIns.h_ins_Right (Nat.le_of_ble_eq_true rfl) ?_
 simp [IV, In4.cs]
 refine callP_of (of_ok x.op) ?_
 unfold ofV rightI
 cases h : shapeOf x.op with
 | none => simp
 | some r =>
  obtain ⟨op, w, has, ways⟩ := r
  have ways_ok : ∀ {H : Heap}, True := trivial
  cases has
  ·by_cases hk : x.k = 0
   ·cases ways
    ·by_cases h1 : x.jt = 0
     ·by_cases h2 : x.jf = 0 <;> simp [rowCs, hk, h1, h2, beqF]
     ·simp [rowCs, hk, h1, beqF]
    ·by_cases h1 : 0 ≤ x.jt
     ·by_cases h2 : x.jt ≤ 255
      ·by_cases h3 : 0 ≤ x.jf
       ·by_cases h4 : x.jf ≤ 255 <;> simp [rowCs, hk, h1, h2, h3, h4]
       ·simp [rowCs, hk, h1, h2, h3]
      ·simp [rowCs, hk, h1, h2]
     ·simp [rowCs, hk, h1]
   ·have hk' : ((x.k : Int) != 0) = true := bneT (by omega)
    simp [rowCs, hk, hk']
  ·cases ways
   ·by_cases h1 : x.jt = 0
    ·by_cases h2 : x.jf = 0 <;> simp [rowCs, h1, h2, beqF]
    ·simp [rowCs, h1, beqF]
   ·by_cases h1 : 0 ≤ x.jt
    ·by_cases h2 : x.jt ≤ 255
     ·by_cases h3 : 0 ≤ x.jf
      ·by_cases h4 : x.jf ≤ 255 <;> simp [rowCs, h1, h2, h3, h4]
      ·simp [rowCs, h1, h2, h3]
     ·simp [rowCs, h1, h2]
    ·simp [rowCs, h1]
/- hurdleref02. -/
def ops39 : List Int := shapeRows.map (·.1)
theorem Ops_ok [HasR2 G] : FP G 177 [] (.vs (ints .i64 ops39) .no) := by
 refine FP_of HasR2.h_hurdleref02_Ops (Nat.le_of_ble_eq_true rfl) ?_
 simp [ints, ops39, shapeRows]
theorem place_ok [HasR2 G] (op : Int) : ∃ p : Int, FP G 176 [.int .i64 op] (.int .i64 p) ∧
  ((∃ (n : Nat) (r : Row4), p = n ∧ shapeRows[n]? = some r ∧ shapeOf op = some r) ∨ p = -1 ∧ shapeOf op = none) := by
 have main : ∀ p : Int, ((∃ (n : Nat) (r : Row4), p = n ∧ shapeRows[n]? = some r ∧ shapeOf op = some r) ∨ p = -1 ∧ shapeOf op = none) → FP G 176 [.int .i64 op] (.int .i64 p) := by
  intro p hp
  refine FP_of HasR2.h_hurdleref02_place (Nat.le_of_ble_eq_true rfl) ?_
  simp
  refine callP_of Ops_ok ?_
  simp
  refine W_up 39 (fun n => [(0, .int .i64 op), (3, .vs (ints .i64 ops39) .no), (4, .int .i64 n)]) (fun _ => []) (fun n => NoRow op n) ?_ ?_
  ·simp [keep_cl, trunc]
   intro m b hm; omega
  intro n hn hall
  have hl : ops39.length = 39 := rfl
  by_cases hlt : n < 39
  ·obtain ⟨r, hr⟩ : ∃ r, shapeRows[n]? = some r := ⟨_, List.getElem?_eq_getElem (show n < shapeRows.length from hlt)⟩
   have ho : ops39[n]? = some r.1 := by simp [ops39, hr]
   obtain ⟨_, hg⟩ := List.getElem?_eq_some_iff.1 ho
   by_cases he : r.1 = op
   ·have hs : shapeOf op = some r := find_at hr (by simpa using he) hall
    have : p = n := by
     rcases hp with ⟨n', r', rfl, h1, h2⟩ | ⟨_, h2⟩
     ·rw [hs] at h2; cases h2
      have h3 : shapeRows.length = 39 := rfl
      have h4 : ∀ i j : Fin 39, shapeRows[i.1]? = shapeRows[j.1]? → i = j := by decide
      have hn' : n' < 39 := by have := (List.getElem?_eq_some_iff.1 h1).1; omega
      have := h4 ⟨n', hn'⟩ ⟨n, hlt⟩ (by rw [h1, hr])
      simp at this; rw [this]
     ·rw [hs] at h2; cases h2
    simp (disch := omega) [ltT, ho, hg, he, hl, this, -Int.natCast_add]
   ·have hall' : NoRow op (n + 1) := fun m b hm hb => by
     by_cases hmn : m = n
     ·subst hmn; rw [hr] at hb; cases hb; simpa using he
     ·exact hall m b (by omega) hb
    simp (disch := omega) [ltT, ho, hg, beqF, he, hl, add1', hlt, keep_cl, trunc, hall', -Int.natCast_add]
  ·have hne : n = 39 := by omega
   subst hne
   have hs : shapeOf op = none := find_none fun m b hb => hall m b (by have := (List.getElem?_eq_some_iff.1 hb).1; exact this) hb
   have : p = -1 := by
    rcases hp with ⟨n', r', rfl, h1, h2⟩ | ⟨h1, _⟩
    ·rw [hs] at h2; cases h2
    ·exact h1
   simp [hl, this]
 cases h : shapeOf op with
 | none => exact ⟨-1, main _ (.inr ⟨rfl, h⟩), .inr ⟨rfl, rfl⟩⟩
 | some r =>
  obtain ⟨he, hr⟩ := shape_some h
  obtain ⟨n, hn⟩ := List.getElem?_of_mem hr
  exact ⟨n, main _ (.inl ⟨n, r, rfl, hn, h⟩), .inl ⟨n, r, rfl, hn, rfl⟩⟩
def plainB (i : Int) : Bool := decide (13 ≤ i ∧ i ≤ 24 ∨ i = 30 ∨ 35 ≤ i)
theorem plain_okR [HasR2 G] (i : Int) : FP G 175 [.int .i64 i] (.bool (plainB i)) := by
 refine FP_of HasR2.h_hurdleref02_plain (Nat.le_of_ble_eq_true rfl) ?_
 unfold plainB
 by_cases h1 : 13 ≤ i
 ·by_cases h2 : i ≤ 24
  ·simp [h1, h2]
  ·by_cases h3 : i = 30
   ·simp [h1, h2, h3]
   ·by_cases h4 : 35 ≤ i <;> simp [h1, h2, h3, h4, beqF]
 ·simp [h1, show ¬ 35 ≤ i from by omega, show ¬ i = 30 from by omega, beqF]
theorem branch_okR [HasR2 G] (i : Int) : FP G 174 [.int .i64 i] (.bool (decide (31 ≤ i))) := by
 refine FP_of HasR2.h_hurdleref02_branch (Nat.le_of_ble_eq_true rfl) ?_
 simp
theorem BranchR_ok [HasR2 G] (x : In4) : FP G 180 [IV x] (.bool (isBr x.op)) := by
 obtain ⟨p, hp, hc⟩ := place_ok (G := G) x.op
 refine FP_of HasR2.h_hurdleref02_Branch (Nat.le_of_ble_eq_true rfl) ?_
 simp [IV, In4.cs]
 refine callP_of hp ?_
 simp
 refine callP_of (branch_okR p) ?_
 have : decide (31 ≤ p) = isBr x.op := by
  rcases hc with ⟨n, r, rfl, h1, h2⟩ | ⟨rfl, h2⟩
  ·have key : ∀ i : Fin 39, ∀ r, shapeRows[i.1]? = some r → decide (31 ≤ (i.1 : Int)) = isBr r.1 := by decide
   have hn : n < 39 := by have := (List.getElem?_eq_some_iff.1 h1).1; exact this
   have := key ⟨n, hn⟩ r h1
   rw [(shape_some h2).1] at this
   exact this
  ·rw [br_none h2]; rfl
 simp [this]
theorem AluR_ok [HasR2 G] (x : In4) : FP G 179 [IV x] (.tup [.int .i64 (aluT x.op).1, .bool (aluT x.op).2.1, .bool (aluT x.op).2.2]) := by
 obtain ⟨p, hp, hc⟩ := place_ok (G := G) x.op
 refine FP_of HasR2.h_hurdleref02_Alu (Nat.le_of_ble_eq_true rfl) ?_
 simp [IV, In4.cs]
 refine callP_of hp ?_
 have key : aluT x.op = if 4 ≤ p ∧ p ≤ 12 then (x.op, false, true) else if 13 ≤ p ∧ p ≤ 21 then (subI .i64 x.op 8, true, true) else (0, false, false) := by
  rcases hc with ⟨n, r, rfl, h1, h2⟩ | ⟨rfl, h2⟩
  ·have key : ∀ i : Fin 39, ∀ r, shapeRows[i.1]? = some r → aluT r.1 = if 4 ≤ (i.1 : Int) ∧ (i.1 : Int) ≤ 12 then (r.1, false, true) else if 13 ≤ (i.1 : Int) ∧ (i.1 : Int) ≤ 21 then (subI .i64 r.1 8, true, true) else (0, false, false) := by decide
   have hn : n < 39 := by have := (List.getElem?_eq_some_iff.1 h1).1; exact this
   have := key ⟨n, hn⟩ r h1
   rw [(shape_some h2).1] at this
   exact this
  ·rw [alu_none h2]; rfl
 by_cases a1 : 4 ≤ p
 ·by_cases a2 : p ≤ 12
  ·rw [if_pos ⟨a1, a2⟩] at key
   simp [a1, a2, key]
  ·rw [if_neg (by omega)] at key
   by_cases a3 : 13 ≤ p
   ·by_cases a4 : p ≤ 21
    ·rw [if_pos ⟨a3, a4⟩] at key
     simp [a1, a2, a3, a4, key]
    ·rw [if_neg (by omega)] at key
     simp [a1, a2, a3, a4, key]
   ·omega
 ·rw [if_neg (by omega), if_neg (by omega)] at key
  simp [a1, show ¬ 13 ≤ p from by omega, key]
theorem EndsR_ok [HasR2 G] (x : In4) : FP G 181 [IV x] (.bool (isEnd x.op)) := by
 refine FP_of HasR2.h_hurdleref02_Ends (Nat.le_of_ble_eq_true rfl) ?_
 simp [IV, In4.cs]
 by_cases h : x.op = 6
 ·simp [h, isEnd]
 ·by_cases h2 : x.op = 22 <;> simp [h, h2, beqF, isEnd]
theorem RightR2_ok [HasR2 G] (x : In4) : FP G 178 [IV x] (.bool (rightI x)) := by
 obtain ⟨p, hp, hc⟩ := place_ok (G := G) x.op
 refine FP_of HasR2.h_hurdleref02_Right (Nat.le_of_ble_eq_true rfl) ?_
 simp [IV, In4.cs]
 refine callP_of hp ?_
 rcases hc with ⟨n, r, rfl, h1, h2⟩ | ⟨rfl, h2⟩
 case inr => simp [rightI, h2]
 have key : ∀ i : Fin 39, ∀ r, shapeRows[i.1]? = some r → plainB (i.1 : Int) = !r.2.2.1 ∧ decide (31 ≤ (i.1 : Int)) = r.2.2.2 := by decide
 have hn : n < 39 := by have := (List.getElem?_eq_some_iff.1 h1).1; exact this
 obtain ⟨k1, k2⟩ := key ⟨n, hn⟩ r h1
 simp only at k1 k2
 simp (disch := omega) [ltF]
 refine callP_of (plain_okR n) ?_
 unfold rightI
 rw [h2, k1]
 obtain ⟨op, w, has, ways⟩ := r
 simp only at k2 ⊢
 have lt256 : ∀ j : Int, (j < 256) = (j ≤ 255) := fun j => propext (by omega)
 have tail : ∀ b : Bool, b = true → True := fun _ _ => trivial
 cases has
 ·by_cases hk : x.k = 0
  ·simp [hk]
   refine callP_of (branch_okR n) ?_
   rw [k2]
   cases ways
   ·by_cases h1 : x.jt = 0
    ·by_cases h2 : x.jf = 0 <;> simp [h1, h2, beqF]
    ·simp [h1, beqF]
   ·by_cases h1 : 0 ≤ x.jt
    ·by_cases h2 : x.jt ≤ 255
     ·by_cases h3 : 0 ≤ x.jf
      ·by_cases h4 : x.jf ≤ 255 <;> simp [lt256, h1, h2, h3, h4]
      ·simp [lt256, h1, h2, h3]
     ·simp [lt256, h1, h2]
    ·simp [lt256, h1]
  ·have hk' : ((x.k : Int) != 0) = true := bneT (by omega)
   simp [hk, hk']
 ·simp
  refine callP_of (branch_okR n) ?_
  rw [k2]
  cases ways
  ·by_cases h1 : x.jt = 0
   ·by_cases h2 : x.jf = 0 <;> simp [h1, h2, beqF]
   ·simp [h1, beqF]
  ·by_cases h1 : 0 ≤ x.jt
   ·by_cases h2 : x.jt ≤ 255
    ·by_cases h3 : 0 ≤ x.jf
     ·by_cases h4 : x.jf ≤ 255 <;> simp [lt256, h1, h2, h3, h4]
     ·simp [lt256, h1, h2, h3]
    ·simp [lt256, h1, h2]
   ·simp [lt256, h1]
end Go.Ev
/- Forms of a few variables and a table: plain mathematics, with no program in sight. -/
namespace Go.Ev
set_option linter.unusedSimpArgs false
set_option linter.unusedVariables false
def cnt (tab : List Nat) (j : Nat) : Bool := (List.range tab.length).any fun n => tab[n]? != tab[n ^^^ 2 ^ j]?
def okAt (vars : List Int) (tab : List Nat) (j : Nat) : Prop :=
 ∃ v, vars[j]? = some v ∧ 0 ≤ v ∧ v < 34 ∧ (∀ u, 0 < j → vars[j - 1]? = some u → u < v) ∧ cnt tab j = true
def Right (vars : List Int) (tab : List Nat) : Prop := vars.length ≤ 4 ∧ tab.length = 2 ^ vars.length ∧ ∀ j, j < vars.length → okAt vars tab j
open Classical in
noncomputable def rightB (vars : List Int) (tab : List Nat) : Bool := decide (Right vars tab)
theorem rightB_iff {vars : List Int} {tab : List Nat} : rightB vars tab = true ↔ Right vars tab := by simp [rightB]
abbrev Up (l : List Int) : Prop := l.Pairwise (· < ·)
theorem up_ext : ∀ {a b : List Int}, Up a → Up b → (∀ v, v ∈ a ↔ v ∈ b) → a = b
 | [], [], _, _, _ => rfl
 | [], y :: b, _, _, h => absurd ((h y).2 (by simp)) (by simp)
 | x :: a, [], _, _, h => absurd ((h x).1 (by simp)) (by simp)
 | x :: a, y :: b, ha, hb, h => by
  have ha' := List.pairwise_cons.1 ha
  have hb' := List.pairwise_cons.1 hb
  have hxy : x = y := by
   rcases List.mem_cons.1 ((h x).1 (by simp)) with e | e
   ·exact e
   rcases List.mem_cons.1 ((h y).2 (by simp)) with e' | e'
   ·exact e'.symm
   have := hb'.1 x e; have := ha'.1 y e'; omega
  subst hxy
  rw [up_ext ha'.2 hb'.2 fun v => ?_]
  constructor
  ·intro hv
   have h1 := ha'.1 v hv
   rcases List.mem_cons.1 ((h v).1 (by simp [hv])) with e | e
   ·omega
   ·exact e
  ·intro hv
   have h1 := hb'.1 v hv
   rcases List.mem_cons.1 ((h v).2 (by simp [hv])) with e | e
   ·omega
   ·exact e
theorem Up.nodup {l : List Int} (h : Up l) : l.Nodup := h.imp (fun h e => by omega)
theorem up_of {l : List Int} (h : ∀ j, 0 < j → ∀ u v, l[j - 1]? = some u → l[j]? = some v → u < v) : Up l := by
 induction l with
 | nil => simp
 | cons x l ih =>
  rw [Up, List.pairwise_cons]
  have htl : Up l := ih (fun j hj u v hu hv => by
   refine h (j + 1) (by omega) u v ?_ (by simpa using hv)
   obtain ⟨k, rfl⟩ : ∃ k, j = k + 1 := ⟨j - 1, by omega⟩
   simpa using hu)
  refine ⟨?_, htl⟩
  intro v hv
  cases l with
  | nil => cases hv
  | cons y l =>
   have hxy : x < y := h 1 (by omega) x y (by simp) (by simp)
   rcases List.mem_cons.1 hv with e | e
   ·omega
   ·have := (List.pairwise_cons.1 htl).1 v e; omega
theorem Right.up {vars : List Int} {tab : List Nat} (h : Right vars tab) : Up vars := up_of fun j hj u v hu hv => by
 have hlt : j < vars.length := by
  rcases Nat.lt_or_ge j vars.length with h | h
  ·exact h
  ·rw [List.getElem?_eq_none h] at hv; cases hv
 obtain ⟨w, hw, _, _, h3, _⟩ := h.2.2 j hlt
 rw [hv] at hw; cases hw
 exact h3 u hj hu
theorem Right.mem {vars : List Int} {tab : List Nat} (h : Right vars tab) {v : Int} (hv : v ∈ vars) : 0 ≤ v ∧ v < 34 := by
 obtain ⟨j, hj, rfl⟩ := List.mem_iff_getElem.1 hv
 obtain ⟨w, hw, h1, h2, _⟩ := h.2.2 j hj
 rw [List.getElem?_eq_getElem hj] at hw; cases hw
 exact ⟨h1, h2⟩
theorem nodup_inj {l : List Int} (h : l.Nodup) {i j : Nat} {hi : i < l.length} {hj : j < l.length} (e : l[i] = l[j]) : i = j := by
 rcases Nat.lt_trichotomy i j with hl | hl | hl
 ·exact absurd e (List.pairwise_iff_getElem.1 h _ _ _ _ hl)
 ·exact hl
 ·exact absurd e.symm (List.pairwise_iff_getElem.1 h _ _ _ _ hl)
def mer : List Int → List Int → List Int
 | [], b => b
 | a, [] => a
 | x :: a, y :: b => if x < y then x :: mer a (y :: b) else if y < x then y :: mer (x :: a) b else x :: mer a b
termination_by a b => a.length + b.length
theorem mer_nil (a : List Int) : mer a [] = a := by cases a <;> simp [mer]
theorem mem_mer {v : Int} (a b : List Int) : v ∈ mer a b ↔ v ∈ a ∨ v ∈ b := by
 fun_induction mer a b with
 | case1 b => simp
 | case2 a h => simp
 | case3 x a y b h ih =>
  simp only [List.mem_cons, ih]
  constructor
  ·rintro (h | h | h | h) <;> simp [h]
  ·rintro ((h | h) | h | h) <;> simp [h]
 | case4 x a y b h h2 ih =>
  simp only [List.mem_cons, ih]
  constructor
  ·rintro (h | (h | h) | h) <;> simp [h]
  ·rintro ((h | h) | h | h) <;> simp [h]
 | case5 x a y b h h2 ih =>
  have : x = y := by omega
  subst this
  simp [ih]; constructor
  ·rintro (h | h | h) <;> simp [h]
  ·rintro ((h | h) | h | h) <;> simp [h]
theorem mer_up (a b : List Int) (ha : Up a) (hb : Up b) : Up (mer a b) := by
 fun_induction mer a b with
 | case1 b => exact hb
 | case2 a h => exact ha
 | case3 x a y b h ih =>
  have ha' := List.pairwise_cons.1 ha
  have hb' := List.pairwise_cons.1 hb
  refine List.pairwise_cons.2 ⟨fun v hv => ?_, ih ha'.2 hb⟩
  rcases (mem_mer _ _).1 hv with h1 | h1
  ·exact ha'.1 v h1
  ·rcases List.mem_cons.1 h1 with e | e
   ·omega
   ·have := hb'.1 v e; omega
 | case4 x a y b h h2 ih =>
  have ha' := List.pairwise_cons.1 ha
  have hb' := List.pairwise_cons.1 hb
  refine List.pairwise_cons.2 ⟨fun v hv => ?_, ih ha hb'.2⟩
  rcases (mem_mer _ _).1 hv with h1 | h1
  ·rcases List.mem_cons.1 h1 with e | e
   ·omega
   ·have := ha'.1 v e; omega
  ·exact hb'.1 v h1
 | case5 x a y b h h2 ih =>
  have ha' := List.pairwise_cons.1 ha
  have hb' := List.pairwise_cons.1 hb
  refine List.pairwise_cons.2 ⟨fun v hv => ?_, ih ha'.2 hb'.2⟩
  rcases (mem_mer _ _).1 hv with h1 | h1
  ·exact ha'.1 v h1
  ·have := hb'.1 v h1; omega
theorem mer_len (a b : List Int) : (mer a b).length ≤ a.length + b.length := by
 fun_induction mer a b <;> simp_all <;> omega
theorem up_sub : ∀ {a b : List Int}, Up a → Up b → (∀ v ∈ a, v ∈ b) → a.Sublist b
 | [], _, _, _, _ => List.nil_sublist _
 | x :: a, [], _, _, h => absurd (h x (by simp)) (by simp)
 | x :: a, y :: b, ha, hb, h => by
  have ha' := List.pairwise_cons.1 ha
  have hb' := List.pairwise_cons.1 hb
  by_cases e : x = y
  ·subst e
   refine List.Sublist.cons_cons _ (up_sub ha'.2 hb'.2 fun v hv => ?_)
   rcases List.mem_cons.1 (h v (by simp [hv])) with e | e
   ·have := ha'.1 v hv; omega
   ·exact e
  ·refine List.Sublist.cons _ (up_sub ha hb'.2 fun v hv => ?_)
   rcases List.mem_cons.1 (h v hv) with e' | e'
   ·subst e'
    rcases List.mem_cons.1 hv with e2 | e2
    ·exact absurd e2.symm e
    ·rcases List.mem_cons.1 (h x (by simp)) with e3 | e3
     ·exact absurd e3 e
     ·have := ha'.1 v e2; have := hb'.1 x e3; omega
   ·exact e'
termination_by a b => a.length + b.length
def idx : List Int → (Int → Bool) → Nat
 | [], _ => 0
 | v :: vs, p => (p v).toNat + 2 * idx vs p
theorem idx_lt : ∀ (vs : List Int) (p : Int → Bool), idx vs p < 2 ^ vs.length
 | [], _ => by simp [idx]
 | v :: vs, p => by
  have := idx_lt vs p
  have h2 : (p v).toNat ≤ 1 := by cases p v <;> simp
  simp only [idx, List.length_cons, Nat.pow_succ]; omega
theorem idx_append (p : Int → Bool) : ∀ (a b : List Int), idx (a ++ b) p = idx a p + 2 ^ a.length * idx b p
 | [], b => by simp [idx]
 | v :: a, b => by
  simp only [List.cons_append, idx, idx_append p a b, List.length_cons, Nat.pow_succ]
  have : 2 ^ a.length * 2 * idx b p = 2 * (2 ^ a.length * idx b p) := by rw [Nat.mul_comm (2 ^ a.length) 2, Nat.mul_assoc]
  omega
theorem idx_bit (p : Int → Bool) : ∀ (vs : List Int) (j : Nat), (idx vs p).testBit j = (vs[j]?.map p).getD false
 | [], j => by simp [idx]
 | v :: vs, 0 => by
  simp only [idx, Nat.testBit_zero, List.getElem?_cons_zero, Option.map_some, Option.getD_some]
  cases p v <;> simp <;> omega
 | v :: vs, j + 1 => by
  simp only [List.getElem?_cons_succ, ← idx_bit p vs j, idx, Nat.testBit_succ]
  congr 1
  cases p v <;> simp <;> omega
theorem idx_ext {p q : Int → Bool} : ∀ {vs : List Int}, (∀ v ∈ vs, p v = q v) → idx vs p = idx vs q
 | [], _ => rfl
 | v :: vs, h => by simp only [idx, h v (by simp), idx_ext (vs := vs) (fun u hu => h u (List.mem_cons_of_mem _ hu))]
def say (vs : List Int) (n : Nat) : Int → Bool := fun v => n.testBit (vs.idxOf v)
theorem idx_say {vs : List Int} (h : vs.Nodup) {n : Nat} (hn : n < 2 ^ vs.length) : idx vs (say vs n) = n := by
 refine Nat.eq_of_testBit_eq fun j => ?_
 rw [idx_bit]
 by_cases hj : j < vs.length
 ·rw [List.getElem?_eq_getElem hj]
  simp only [Option.map_some, Option.getD_some, say]
  rw [List.Nodup.idxOf_getElem h]
 ·rw [List.getElem?_eq_none (by omega)]
  simp only [Option.map_none, Option.getD_none]
  rw [Nat.testBit_lt_two_pow (Nat.lt_of_lt_of_le hn (Nat.pow_le_pow_right (by decide) (by omega)))]
theorem say_idx {vs : List Int} {v : Int} (hv : v ∈ vs) (p : Int → Bool) : say vs (idx vs p) v = p v := by
 rw [say, idx_bit, List.getElem?_eq_getElem (List.idxOf_lt_length_of_mem hv)]
 simp
def flip (p : Int → Bool) (v : Int) : Int → Bool := fun u => if u = v then !p u else p u
theorem idx_flip {vs : List Int} (h : vs.Nodup) (p : Int → Bool) {j : Nat} {v : Int} (hv : vs[j]? = some v) : idx vs (flip p v) = idx vs p ^^^ 2 ^ j := by
 have hj : j < vs.length := by
  rcases Nat.lt_or_ge j vs.length with h | h
  ·exact h
  ·rw [List.getElem?_eq_none h] at hv; cases hv
 refine Nat.eq_of_testBit_eq fun i => ?_
 rw [Nat.testBit_xor, idx_bit, idx_bit, Nat.testBit_two_pow]
 by_cases hi : i < vs.length
 ·rw [List.getElem?_eq_getElem hi]
  simp only [Option.map_some, Option.getD_some, flip]
  rw [List.getElem?_eq_getElem hj] at hv; cases hv
  by_cases hij : i = j
  ·subst hij; simp
  ·have : vs[i] ≠ vs[j] := fun e => hij (nodup_inj h e)
   have hji : j ≠ i := fun e => hij e.symm
   simp [this, hji]
 ·rw [List.getElem?_eq_none (by omega)]
  have hji : j ≠ i := by omega
  simp [hji]
def sem (vs : List Int) (tab : List Nat) (p : Int → Bool) : Nat := tab.getD (idx vs p) 0
theorem sem_ext {vs : List Int} {tab : List Nat} {p q : Int → Bool} (h : ∀ v ∈ vs, p v = q v) : sem vs tab p = sem vs tab q := by rw [sem, sem, idx_ext h]
theorem tab_get {vs : List Int} {tab : List Nat} (hn : vs.Nodup) (hl : tab.length = 2 ^ vs.length) {n : Nat} (h : n < tab.length) : tab[n] = sem vs tab (say vs n) := by
 have h1 := idx_say hn (n := n) (by omega)
 simp [sem, h1, List.getD_eq_getElem?_getD, h]
def dep (f : (Int → Bool) → Nat) (v : Int) : Prop := ∃ p, f p ≠ f (flip p v)
theorem cnt_iff {vs : List Int} {tab : List Nat} (h : vs.Nodup) (hl : tab.length = 2 ^ vs.length) {j : Nat} {v : Int} (hv : vs[j]? = some v) : cnt tab j = true ↔ dep (sem vs tab) v := by
 have get (n : Nat) (hn : n < tab.length) : tab[n]? = some (tab.getD n 0) := by rw [List.getElem?_eq_getElem hn, List.getD_eq_getElem?_getD, List.getElem?_eq_getElem hn]; rfl
 have hj : j < vs.length := by
  rcases Nat.lt_or_ge j vs.length with h | h
  ·exact h
  ·rw [List.getElem?_eq_none h] at hv; cases hv
 simp only [cnt, List.any_eq_true, List.mem_range, bne_iff_ne, ne_eq, dep, sem]
 constructor
 ·rintro ⟨n, hn, hne⟩
  refine ⟨say vs n, fun e => hne ?_⟩
  rw [idx_flip h _ hv, idx_say h (by omega)] at e
  rw [get n hn, get _ (by rw [hl] at hn ⊢; exact Nat.xor_lt_two_pow hn (Nat.pow_lt_pow_right (by decide) hj)), e]
 ·rintro ⟨p, hp⟩
  have h1 : idx vs p < tab.length := by rw [hl]; exact idx_lt vs p
  refine ⟨idx vs p, h1, fun e => hp ?_⟩
  rw [idx_flip h _ hv]
  rw [get _ h1, get _ (by rw [hl] at h1 ⊢; exact Nat.xor_lt_two_pow h1 (Nat.pow_lt_pow_right (by decide) hj))] at e
  exact Option.some.inj e
theorem Right.deps {vs : List Int} {tab : List Nat} (h : Right vs tab) {v : Int} (hv : v ∈ vs) : dep (sem vs tab) v := by
 obtain ⟨j, hj, rfl⟩ := List.mem_iff_getElem.1 hv
 obtain ⟨w, hw, _, _, _, hc⟩ := h.2.2 j hj
 exact (cnt_iff h.up.nodup h.2.1 (List.getElem?_eq_getElem hj)).1 hc
theorem Right.of {vs : List Int} {tab : List Nat} (h4 : vs.length ≤ 4) (hl : tab.length = 2 ^ vs.length) (hu : Up vs) (hm : ∀ v ∈ vs, 0 ≤ v ∧ v < 34) (hd : ∀ v ∈ vs, dep (sem vs tab) v) : Right vs tab := by
 refine ⟨h4, hl, fun j hj => ⟨vs[j], List.getElem?_eq_getElem hj, (hm _ (List.getElem_mem hj)).1, (hm _ (List.getElem_mem hj)).2, ?_, (cnt_iff hu.nodup hl (List.getElem?_eq_getElem hj)).2 (hd _ (List.getElem_mem hj))⟩⟩
 intro u h0 hu'
 rw [List.getElem?_eq_getElem (by omega)] at hu'; cases hu'
 exact List.pairwise_iff_getElem.1 hu _ _ _ _ (by omega)
theorem not_dep {vs : List Int} {tab : List Nat} {v : Int} (hv : v ∉ vs) : ¬ dep (sem vs tab) v := by
 rintro ⟨p, hp⟩
 refine hp ?_
 simp only [sem]
 rw [idx_ext (p := p) (q := flip p v) fun u hu => ?_]
 have : u ≠ v := fun e => hv (e ▸ hu)
 simp [flip, this]
theorem canon {vs vs' : List Int} {tab tab' : List Nat} (h : Right vs tab) (h' : Right vs' tab') (hs : ∀ p, sem vs tab p = sem vs' tab' p) : vs = vs' ∧ tab = tab' := by
 have hf : sem vs tab = sem vs' tab' := funext hs
 have hv : vs = vs' := up_ext h.up h'.up fun v => by
  constructor
  ·intro hv
   have := h.deps hv
   rw [hf] at this
   exact Decidable.byContradiction fun hn => not_dep hn this
  ·intro hv
   have := h'.deps hv
   rw [← hf] at this
   exact Decidable.byContradiction fun hn => not_dep hn this
 subst hv
 refine ⟨rfl, List.ext_getElem (by rw [h.2.1, h'.2.1]) fun n h1 h2 => ?_⟩
 have := hs (say vs n)
 simp only [sem] at this
 rw [idx_say h.up.nodup (by rw [← h.2.1]; exact h1)] at this
 simpa [List.getD_eq_getElem?_getD, List.getElem?_eq_getElem h1, List.getElem?_eq_getElem h2] using this
def remT (tab : List Nat) (j : Nat) : List Nat := ((List.range tab.length).filter fun n => !n.testBit j).map fun n => tab.getD n 0
def ins (j m : Nat) : Nat := 2 ^ (j + 1) * (m / 2 ^ j) + m % 2 ^ j
theorem ins_bit (j m i : Nat) : (ins j m).testBit i = if i < j then m.testBit i else if i = j then false else m.testBit (i - 1) := by
 have h1 : m % 2 ^ j < 2 ^ (j + 1) := Nat.lt_of_lt_of_le (Nat.mod_lt _ (Nat.two_pow_pos j)) (Nat.pow_le_pow_right (by decide) (by omega))
 rw [ins, Nat.testBit_two_pow_mul_add _ h1]
 by_cases h : i < j
 ·rw [if_pos (by omega), if_pos h, Nat.testBit_mod_two_pow]; simp [h]
 ·rw [if_neg h]
  by_cases h2 : i = j
  ·subst h2; rw [if_pos (by omega), if_pos rfl, Nat.testBit_mod_two_pow]; simp
  ·rw [if_neg (by omega), if_neg h2, Nat.testBit_div_two_pow]
   congr 1; omega
theorem ins_lt {j k m : Nat} (hj : j ≤ k) (hm : m < 2 ^ k) : ins j m < 2 ^ (k + 1) := by
 refine Nat.lt_pow_two_of_testBit _ fun i hi => ?_
 rw [ins_bit, if_neg (by omega)]
 split
 ·rfl
 ·exact Nat.testBit_lt_two_pow (Nat.lt_of_lt_of_le hm (Nat.pow_le_pow_right (by decide) (by omega)))
theorem ins_mono {j a b : Nat} (h : a < b) : ins j a < ins j b := by
 have h3 : a / 2 ^ j ≤ b / 2 ^ j := Nat.div_le_div_right (Nat.le_of_lt h)
 have h1 := Nat.div_add_mod a (2 ^ j)
 have h2 := Nat.div_add_mod b (2 ^ j)
 have h4 := Nat.mod_lt a (Nat.two_pow_pos j)
 have h5 := Nat.mod_lt b (Nat.two_pow_pos j)
 simp only [ins, Nat.pow_succ]
 rcases Nat.lt_or_ge (a / 2 ^ j) (b / 2 ^ j) with h6 | h6
 ·have : 2 ^ j * (a / 2 ^ j + 1) ≤ 2 ^ j * (b / 2 ^ j) := Nat.mul_le_mul_left _ h6
  have e1 : 2 ^ j * 2 * (a / 2 ^ j) = 2 * (2 ^ j * (a / 2 ^ j)) := by rw [Nat.mul_comm (2 ^ j) 2, Nat.mul_assoc]
  have e2 : 2 ^ j * 2 * (b / 2 ^ j) = 2 * (2 ^ j * (b / 2 ^ j)) := by rw [Nat.mul_comm (2 ^ j) 2, Nat.mul_assoc]
  rw [Nat.mul_add] at this
  omega
 ·have e : a / 2 ^ j = b / 2 ^ j := by omega
  rw [e] at h1 ⊢
  omega
theorem ins_onto {j n : Nat} (h : n.testBit j = false) : ∃ m, ins j m = n ∧ (∀ k, j ≤ k → n < 2 ^ (k + 1) → m < 2 ^ k) := by
 refine ⟨2 ^ j * (n / 2 ^ (j + 1)) + n % 2 ^ j, ?_, ?_⟩
 ·refine Nat.eq_of_testBit_eq fun i => ?_
  have h1 : n % 2 ^ j < 2 ^ j := Nat.mod_lt _ (Nat.two_pow_pos j)
  rw [ins_bit, Nat.testBit_two_pow_mul_add _ h1, Nat.testBit_two_pow_mul_add _ h1]
  by_cases h2 : i < j
  ·rw [if_pos h2, if_pos h2, Nat.testBit_mod_two_pow]; simp [h2]
  ·rw [if_neg h2]
   by_cases h3 : i = j
   ·subst h3; simp [h]
   ·rw [if_neg h3, if_neg (by omega), Nat.testBit_div_two_pow]
    congr 1; omega
 ·intro k hk hn
  have h1 : n % 2 ^ j < 2 ^ j := Nat.mod_lt _ (Nat.two_pow_pos j)
  refine Nat.lt_pow_two_of_testBit _ fun i hi => ?_
  rw [Nat.testBit_two_pow_mul_add _ h1, if_neg (by omega), Nat.testBit_div_two_pow]
  exact Nat.testBit_lt_two_pow (Nat.lt_of_lt_of_le hn (Nat.pow_le_pow_right (by decide) (by omega)))
theorem lt_ext : ∀ {a b : List Nat}, a.Pairwise (· < ·) → b.Pairwise (· < ·) → (∀ v, v ∈ a ↔ v ∈ b) → a = b
 | [], [], _, _, _ => rfl
 | [], y :: b, _, _, h => absurd ((h y).2 (by simp)) (by simp)
 | x :: a, [], _, _, h => absurd ((h x).1 (by simp)) (by simp)
 | x :: a, y :: b, ha, hb, h => by
  have ha' := List.pairwise_cons.1 ha
  have hb' := List.pairwise_cons.1 hb
  have hxy : x = y := by
   rcases List.mem_cons.1 ((h x).1 (by simp)) with e | e
   ·exact e
   rcases List.mem_cons.1 ((h y).2 (by simp)) with e' | e'
   ·exact e'.symm
   have := hb'.1 x e; have := ha'.1 y e'; omega
  subst hxy
  rw [lt_ext ha'.2 hb'.2 fun v => ?_]
  constructor
  ·intro hv
   have h1 := ha'.1 v hv
   rcases List.mem_cons.1 ((h v).1 (by simp [hv])) with e | e
   ·omega
   ·exact e
  ·intro hv
   have h1 := hb'.1 v hv
   rcases List.mem_cons.1 ((h v).2 (by simp [hv])) with e | e
   ·omega
   ·exact e
theorem rem_eq {k j : Nat} (hj : j ≤ k) : ((List.range (2 ^ (k + 1))).filter fun n => !n.testBit j) = (List.range (2 ^ k)).map (ins j) := by
 refine lt_ext (List.Pairwise.filter _ List.pairwise_lt_range) ?_ fun n => ?_
 ·rw [List.pairwise_map]
  exact List.pairwise_lt_range.imp fun h => ins_mono h
 ·simp only [List.mem_filter, List.mem_range, List.mem_map, Bool.not_eq_true']
  constructor
  ·rintro ⟨h1, h2⟩
   obtain ⟨m, hm, hk⟩ := ins_onto h2
   exact ⟨m, hk k hj h1, hm⟩
  ·rintro ⟨m, hm, rfl⟩
   refine ⟨ins_lt hj hm, ?_⟩
   rw [ins_bit, if_neg (by omega), if_pos rfl]
theorem remT_len {tab : List Nat} {k j : Nat} (hl : tab.length = 2 ^ (k + 1)) (hj : j ≤ k) : (remT tab j).length = 2 ^ k := by
 rw [remT, hl, rem_eq hj]; simp
theorem remT_get {tab : List Nat} {k j m : Nat} (hl : tab.length = 2 ^ (k + 1)) (hj : j ≤ k) (hm : m < 2 ^ k) : (remT tab j).getD m 0 = tab.getD (ins j m) 0 := by
 rw [remT, hl, rem_eq hj]
 simp [List.getD_eq_getElem?_getD, hm]
theorem sem_rem {vs : List Int} {tab : List Nat} (h : vs.Nodup) (hl : tab.length = 2 ^ vs.length) {j : Nat} (hj : j < vs.length) (hc : cnt tab j = false) (p : Int → Bool) :
  sem (vs.eraseIdx j) (remT tab j) p = sem vs tab p := by
 obtain ⟨k, hk⟩ : ∃ k, vs.length = k + 1 := ⟨vs.length - 1, by omega⟩
 have hle : (vs.eraseIdx j).length = k := by rw [List.length_eraseIdx_of_lt hj]; omega
 have hm : idx (vs.eraseIdx j) p < 2 ^ k := by have := idx_lt (vs.eraseIdx j) p; rwa [hle] at this
 have hv : vs[j]? = some vs[j] := List.getElem?_eq_getElem hj
 have hnd : ¬ dep (sem vs tab) vs[j] := fun hd => by rw [(cnt_iff h hl hv).2 hd] at hc; cases hc
 have key : ins j (idx (vs.eraseIdx j) p) = idx vs (fun u => if u = vs[j] then false else p u) := by
  refine Nat.eq_of_testBit_eq fun i => ?_
  rw [ins_bit, idx_bit, idx_bit, idx_bit, List.getElem?_eraseIdx, List.getElem?_eraseIdx]
  by_cases h1 : i < j
  ·rw [if_pos h1, if_pos h1]
   rw [List.getElem?_eq_getElem (by omega)]
   have : vs[i] ≠ vs[j] := fun e => by have := nodup_inj h e; omega
   simp [this]
  ·rw [if_neg h1]
   by_cases h2 : i = j
   ·subst h2; rw [if_pos rfl, hv]; simp
   ·rw [if_neg h2, if_neg (by omega), show i - 1 + 1 = i by omega]
    by_cases h3 : i < vs.length
    ·rw [List.getElem?_eq_getElem h3]
     have : vs[i] ≠ vs[j] := fun e => by have := nodup_inj h e; omega
     simp [this]
    ·rw [List.getElem?_eq_none (by omega)]; simp
 simp only [sem]
 rw [remT_get (by rw [hl, hk]) (by omega) hm, key]
 show sem vs tab _ = sem vs tab p
 by_cases hp : p vs[j] = false
 ·simp only [sem]
  rw [idx_ext (q := p)]
  intro u _
  by_cases e : u = vs[j]
  ·simp [e, hp]
  ·simp [e]
 ·have : sem vs tab p = sem vs tab (flip p vs[j]) := Decidable.byContradiction fun e => hnd ⟨p, e⟩
  rw [this]
  simp only [sem]
  rw [idx_ext (q := flip p vs[j])]
  intro u _
  by_cases e : u = vs[j]
  ·simp only [flip, e, if_true]; cases hq : p vs[j]
   ·exact absurd hq hp
   ·rfl
  ·simp [flip, e]
def wordOf (f : Nat → Bool) : Nat → Nat
 | 0 => 0
 | k + 1 => wordOf f k + 2 ^ k * (f k).toNat
theorem wordOf_lt (f : Nat → Bool) : ∀ k, wordOf f k < 2 ^ k
 | 0 => by simp [wordOf]
 | k + 1 => by
  have := wordOf_lt f k
  simp only [wordOf, Nat.pow_succ]
  cases f k <;> simp <;> omega
theorem wordOf_bit (f : Nat → Bool) (i : Nat) : ∀ k, (wordOf f k).testBit i = (decide (i < k) && f i)
 | 0 => by simp [wordOf]
 | k + 1 => by
  rw [wordOf, Nat.add_comm, Nat.testBit_two_pow_mul_add _ (wordOf_lt f k)]
  by_cases h : i < k
  ·rw [if_pos h, wordOf_bit f i k]; simp [h, show i < k + 1 by omega]
  ·rw [if_neg h]
   by_cases h2 : i = k
   ·subst h2; simp
    cases f i <;> simp
   ·have h3 : ¬ i < k + 1 := by omega
    simp only [h3, decide_false, Bool.false_and]
    have : (f k).toNat < 2 ^ (i - k) := Nat.lt_of_lt_of_le (by cases f k <;> simp : (f k).toNat < 2 ^ 1) (Nat.pow_le_pow_right (by decide) (by omega))
    exact Nat.testBit_lt_two_pow this
theorem wordOf_ext {f g : Nat → Bool} : ∀ {k : Nat}, (∀ i, i < k → f i = g i) → wordOf f k = wordOf g k
 | 0, _ => rfl
 | k + 1, h => by rw [wordOf, wordOf, wordOf_ext fun i hi => h i (by omega), h k (by omega)]
theorem wordOf_self {w : Nat} (h : w < 2 ^ 32) : wordOf w.testBit 32 = w := by
 refine Nat.eq_of_testBit_eq fun i => ?_
 rw [wordOf_bit]
 by_cases hi : i < 32
 ·simp [hi]
 ·simp only [hi, decide_false, Bool.false_and]
  exact (Nat.testBit_lt_two_pow (Nat.lt_of_lt_of_le h (Nat.pow_le_pow_right (by decide) (by omega)))).symm
def val (vs : List Int) (tab : List Nat) (r : Int → Nat) : Nat := wordOf (fun i => (sem vs tab fun v => (r v).testBit i).testBit i) 32
end Go.Ev
/- What the functions of bits compute. -/
namespace Go.Ev
open Go Go.RowKit
variable {G : Tbl}
set_option maxRecDepth 10000
set_option linter.unusedSimpArgs false
set_option linter.unusedVariables false
def FV (vars : List Int) (tab : List Nat) : V := .agg [.vs (ints .i64 vars) .no, .vs (nats .u32 tab) .no]
theorem counts_ok (hG : HasBits G) (vars : List Int) (tab : List Nat) (j : Nat) (hj : j < 10) (hlen : tab.length ≤ 100) (hin : ∀ n, n < tab.length → n ^^^ 2 ^ j < tab.length) :
  FP G 100 [FV vars tab, .int .i64 j] (.bool (cnt tab j)) := by
 refine FP_of hG.h_bits_counts (Nat.le_of_ble_eq_true rfl) ?_
 simp [FV]
 refine W_up tab.length (fun n => [(1, .int .i64 j), (2, .ptr 0 0), (8, .int .i64 tab.length), (9, .int .i64 n)])
  (fun _ => [some (.cells [.vs (ints .i64 vars) .no, .vs (nats .u32 tab) .no])]) (fun n => ∀ m, m < n → tab[m]? = tab[m ^^^ 2 ^ j]?) ?_ ?_
 ·simp [keep_cl, trunc]
 intro n hn hall
 by_cases hlt : n < tab.length
 ·have h1 : tab[n]? = some tab[n] := List.getElem?_eq_getElem hlt
  have h2 : tab[n ^^^ 2 ^ j]? = some (tab[n ^^^ 2 ^ j]'(hin n hlt)) := List.getElem?_eq_getElem (hin n hlt)
  have hp : 2 ^ j < 2 ^ 63 := Nat.pow_lt_pow_right (by decide) (by omega)
  have h3 : shlI .i64 1 (j : Int) = ((2 ^ j : Nat) : Int) := shl1 (by omega)
  have h4 : xorI .i64 (n : Int) ((2 ^ j : Nat) : Int) = ((n ^^^ 2 ^ j : Nat) : Int) := xor64 (by omega) hp
  have h5 : ¬ (j : Int) < 0 := by omega
  have h6 : addI .i64 (n : Int) 1 = ((n + 1 : Nat) : Int) := add1 hlt (by omega)
  simp [hlt, h3, h4, h5, h6, hin n hlt, -Int.natCast_pow, -Int.natCast_add]
  rw [condW_bool]
  split
  ·rename_i he
   simp at he
   simp only [W_seq, W_region, WO_op, Ws]
   simp [cnt]
   exact ⟨n, hlt, by rw [h1, h2]; simpa using he⟩
  ·rename_i he
   simp at he
   simp [hlt, h6, keep_cl, trunc, -Int.natCast_add]
   intro m hm
   by_cases hmn : m = n
   ·subst hmn; rw [h1, h2, he]
   ·exact hall m (by omega)
 ·have hnl : n = tab.length := by omega
  subst hnl
  simp [cnt]
  exact hall
theorem tab_in {vars : List Int} {tab : List Nat} (h : vars.length ≤ 4) (ht : tab.length = 2 ^ vars.length) {j : Nat} (hj : j < vars.length) : ∀ n, n < tab.length → n ^^^ 2 ^ j < tab.length := by
 intro n hn
 rw [ht] at hn ⊢
 exact Nat.xor_lt_two_pow hn (Nat.pow_lt_pow_right (by decide) hj)
theorem tab_small {vars : List Int} {tab : List Nat} (h : vars.length ≤ 4) (ht : tab.length = 2 ^ vars.length) : tab.length ≤ 16 := by
 rw [ht]; exact Nat.pow_le_pow_right (by decide) h
theorem Right_ok (hG : HasBits G) (vars : List Int) (tab : List Nat) (hv : vars.length ≤ 9223372036854775807) (ht : tab.length ≤ 9223372036854775807) : FP G 101 [FV vars tab] (.bool (rightB vars tab)) := by
 refine FP_of hG.h_bits_Right (Nat.le_of_ble_eq_true rfl) ?_
 simp [FV]
 by_cases h4 : vars.length ≤ 4
 ·by_cases h7 : tab.length = 2 ^ vars.length
  ·have hsm := tab_small h4 h7
   simp (disch := omega) [leT, leF, ltT, ltF, ltTn, ltFn, shl1, h7, -Int.natCast_pow]
   refine W_up vars.length (fun n => [(1, .ptr 0 0), (20, .vs (ints .i64 vars) .no), (21, .int .i64 vars.length), (22, .int .i64 n)])
    (fun _ => [some (.cells [.vs (ints .i64 vars) .no, .vs (nats .u32 tab) .no])]) (fun n => ∀ m, m < n → okAt vars tab m) ?_ ?_
   ·simp [keep_cl, trunc]
   intro n hn hall
   by_cases hlt : n < vars.length
   ·have hbad : ¬ okAt vars tab n → rightB vars tab = false := fun h => by simp only [rightB, decide_eq_false_iff_not]; exact fun hR => h (hR.2.2 n hlt)
    have hgood : okAt vars tab n → ∀ m, m < n + 1 → okAt vars tab m := fun h m hm => by
     by_cases hmn : m = n
     ·subst hmn; exact h
     ·exact hall m (by omega)
    have h1 : vars[n]? = some vars[n] := List.getElem?_eq_getElem hlt
    by_cases ha : vars[n] < 0
    ·simp (disch := omega) [leT, leF, ltT, ltF, ltTn, ltFn, get_in]
     exact hbad (by rintro ⟨v, hv, h0, _⟩; rw [h1] at hv; cases hv; omega)
    by_cases hb : vars[n] < 34
    ·by_cases hd : 0 < n
     ·have h2 : vars[n - 1]? = some vars[n - 1] := List.getElem?_eq_getElem (by omega)
      by_cases hg : vars[n - 1] < vars[n]
      ·simp (disch := omega) [leT, leF, ltT, ltF, ltTn, ltFn, get_in, sub1', add1', -Int.natCast_add]
       refine callP_of (counts_ok hG vars tab n (by omega) (by omega) (tab_in h4 h7 hlt)) ?_
       cases hk : cnt tab n <;> simp (disch := omega) [hlt, keep_cl, trunc, add1', -Int.natCast_add]
       ·exact hbad (by rintro ⟨v, hv, h0, _, _, hh⟩; rw [hk] at hh; cases hh)
       ·exact hgood ⟨_, h1, by omega, hb, fun u _ hu => by rw [h2] at hu; cases hu; exact hg, hk⟩
      ·simp (disch := omega) [leT, leF, ltT, ltF, ltTn, ltFn, get_in, sub1', -Int.natCast_add]
       exact hbad (by rintro ⟨v, hv, h0, _, hu, _⟩; rw [h1] at hv; cases hv; exact hg (hu _ hd h2))
     ·have hn0 : n = 0 := by omega
      subst hn0
      simp (disch := omega) [leT, leF, ltT, ltF, ltTn, ltFn, get_in, add1', -Int.natCast_add]
      refine callP_of (counts_ok hG vars tab 0 (by omega) (by omega) (tab_in h4 h7 hlt)) ?_
      cases hk : cnt tab 0 <;> simp (disch := omega) [hlt, keep_cl, trunc, addI64]
      ·exact hbad (by rintro ⟨v, hv, h0, _, _, hh⟩; rw [hk] at hh; cases hh)
      ·exact ⟨_, h1, by omega, hb, fun u hu => absurd hu (by omega), hk⟩
    ·simp (disch := omega) [leT, leF, ltT, ltF, ltTn, ltFn, get_in]
     exact hbad (by rintro ⟨v, hv, h0, _⟩; rw [h1] at hv; cases hv; omega)
   ·have hnl : n = vars.length := by omega
    subst hnl
    have : rightB vars tab = true := by simp only [rightB, decide_eq_true_eq]; exact ⟨h4, h7, hall⟩
    simp [this]
  ·have h8 : ¬ ((tab.length : Int) = ((2 ^ vars.length : Nat) : Int)) := by
    simp only [Int.ofNat_inj]; exact h7
   simp (disch := omega) [leT, leF, ltT, ltF, ltTn, ltFn, shl1, bneT h8, -Int.natCast_pow]
   simp [rightB, Right, h7]
 ·simp (disch := omega) [leT, leF, ltT, ltF]
  simp [rightB, Right, h4]
end Go.Ev
/- What the functions of bits compute: the smaller ones. -/
namespace Go.Ev
open Go Go.RowKit
variable {G : Tbl}
set_option maxRecDepth 10000
set_option linter.unusedSimpArgs false
set_option linter.unusedVariables false
def doW (kind : Int) (a b : Nat) : Nat × Bool :=
 if kind = 4 then ((a + b) % 4294967296, true) else if kind = 20 then ((a + 4294967296 - b) % 4294967296, true) else if kind = 36 then (a * b % 4294967296, true)
 else if kind = 52 then (if b = 0 then (0, false) else (a / b, true)) else if kind = 68 then (a ||| b, true) else if kind = 84 then (a &&& b, true)
 else if kind = 100 then (a * 2 ^ (b % 32) % 4294967296, true) else if kind = 116 then (a / 2 ^ (b % 32), true) else if kind = 164 then (a ^^^ b, true) else (0, false)
theorem wrap32 (n : Int) : IntKind.u32.wrap n = n % 4294967296 := rfl
theorem doW_ok (hG : HasWd G) (kind : Int) (a b : Nat) (ha : a < 4294967296) (hb : b < 4294967296) :
  FP G 107 [.int .i64 kind, .int .u32 a, .int .u32 b] (.tup [.int .u32 ((doW kind a b).1 : Nat), .bool (doW kind a b).2]) := by
 refine FP_of hG.h_word_Do (Nat.le_of_ble_eq_true rfl) ?_
 simp
 by_cases h : kind = 4
 ·subst h; simp [doW]; simp [addI, wrap32]
 by_cases h : kind = 20
 ·subst h; simp [doW]; simp [subI, wrap32]; omega
 by_cases h : kind = 36
 ·subst h; simp [doW]; simp [mulI, wrap32]
 by_cases h : kind = 52
 ·subst h
  by_cases hz : b = 0
  ·subst hz; simp [doW]
  ·simp (disch := omega) [doW, hz, beqF]
   simp [quo32 ha hz, hz]
 by_cases h : kind = 68
 ·subst h; simp [doW]; exact or32 ha hb
 by_cases h : kind = 84
 ·subst h; simp [doW]; exact and32 ha hb
 by_cases h : kind = 100
 ·subst h
  have h1 : b % 32 ≤ 32 := by omega
  simp (disch := omega) [doW, and31 hb, shl32 h1, ltF, -Int.natCast_emod]
 by_cases h : kind = 116
 ·subst h
  have h1 : b % 32 ≤ 32 := by omega
  simp (disch := omega) [doW, and31 hb, shr32 h1, ltF, -Int.natCast_emod]
 by_cases h : kind = 164
 ·subst h; simp [doW]; exact xor32 ha hb
 simp (disch := omega) [doW, beqF, *]
theorem Const_ok (hG : HasBits G) (c : Nat) : FP G 102 [.int .u32 (c : Int)] (FV [] [c]) := by
 refine FP_of hG.h_bits_Const (Nat.le_of_ble_eq_true rfl) ?_
 simp [FV, nats]
theorem Var_ok (hG : HasBits G) (i : Int) : FP G 103 [.int .i64 i] (if 0 ≤ i ∧ i < 34 then .tup [FV [i] [0, 4294967295], .int .i64 0] else .tup [FV [] [], .int .i64 1]) := by
 refine FP_of hG.h_bits_Var (Nat.le_of_ble_eq_true rfl) ?_
 by_cases h1 : i < 0
 ·simp (disch := omega) [FV, nats, ints, leT, leF, ltT, ltF]
 ·by_cases h2 : i < 34
  ·simp (disch := omega) [FV, nats, ints, leT, leF, ltT, ltF]
  ·simp (disch := omega) [FV, nats, ints, leT, leF, ltT, ltF]
theorem union_ok (hG : HasBits G) (a b : List Int) (hl : a.length + b.length ≤ 1000) :
  FP G 104 [.vs (ints .i64 a) .no, .vs (ints .i64 b) .no] (.vs (ints .i64 (mer a b)) .no) := by
 refine FP_of hG.h_bits_union (Nat.le_of_ble_eq_true rfl) ?_
 simp
 refine W_state (fun s : List Int × List Int × List Int => s.2.1.length + s.2.2.length)
  (fun s => [(0, .vs (ints .i64 s.2.1) .no), (1, .vs (ints .i64 s.2.2) .no), (5, .vs (ints .i64 s.1) (.own 0))]) (fun s => [some (.zone s.1.length)])
  (fun s => s.1 ++ mer s.2.1 s.2.2 = mer a b ∧ s.1.length + s.2.1.length + s.2.2.length ≤ 1000) ([], a, b) ?_ ?_
 ·simp [keep_cl, trunc, hl]
 rintro ⟨out, x, y⟩ ⟨hm, hs⟩
 simp only at hm hs
 cases x with
 | nil =>
  cases y with
  | nil => simp [mer] at hm; simp [addI64, hm]
  | cons v y =>
   simp only [List.length_cons, List.length_nil] at hs
   simp (disch := omega) [addI64, ltT, ltF, leTn, ints_cons, eqF, eqT, beqF, bounds, leT]
   refine ⟨(out ++ [v], [], y), ?_⟩
   simp [mer] at hm
   simp [hm, keep_cl, trunc, ints_cons, mer, mer_nil]
   omega
 | cons u x =>
  cases y with
  | nil =>
   simp only [List.length_cons, List.length_nil] at hs
   simp (disch := omega) [addI64, ltT, ltF, leTn, ints_cons, eqF, eqT, beqF, bounds, leT]
   refine ⟨(out ++ [u], x, []), ?_⟩
   simp [mer, mer_nil] at hm
   simp [hm, keep_cl, trunc, ints_cons, mer, mer_nil]
   omega
  | cons v y =>
   simp only [List.length_cons, List.length_nil] at hs
   rw [mer] at hm
   by_cases h1 : u < v
   ·simp (disch := omega) [addI64, ltT, ltF, leTn, ints_cons, eqF, eqT, beqF, bounds, leT]
    refine ⟨(out ++ [u], x, v :: y), ?_⟩
    simp [h1] at hm
    simp [hm, keep_cl, trunc, ints_cons, mer, mer_nil]
    omega
   ·by_cases h2 : v < u
    ·simp (disch := omega) [addI64, ltT, ltF, leTn, ints_cons, eqF, eqT, beqF, bounds, leT]
     refine ⟨(out ++ [v], u :: x, y), ?_⟩
     simp [h1, h2] at hm
     simp [hm, keep_cl, trunc, ints_cons, mer, mer_nil]
     omega
    ·simp (disch := omega) [addI64, ltT, ltF, leTn, ints_cons, eqF, eqT, beqF, bounds, leT]
     refine ⟨(out ++ [u], x, y), ?_⟩
     simp [h1, h2] at hm
     simp [hm, keep_cl, trunc, ints_cons, mer, mer_nil]
     omega
theorem or_bit {k j b : Nat} (hk : k < 2 ^ j) (hb : b ≤ 1) : k ||| b * 2 ^ j = k + 2 ^ j * b := by
 rw [Nat.mul_comm b, Nat.or_comm, ← Nat.two_pow_add_eq_or_of_lt hk]; omega
theorem toNat_bit (n i : Nat) : n / 2 ^ i % 2 = (n.testBit i).toNat := by
 rw [Nat.testBit_eq_decide_div_mod_eq]
 rcases Nat.mod_two_eq_zero_or_one (n / 2 ^ i) with h | h <;> simp [h]
theorem and1 {b : Nat} (hb : b < 9223372036854775808) : andI .i64 (b : Int) 1 = ((b % 2 : Nat) : Int) := by
 have := and64 (a := b) (b := 1) hb (by decide)
 rw [show ((1 : Nat) : Int) = 1 from rfl] at this
 rw [this, show (1 : Nat) = 2 ^ 1 - 1 from rfl, Nat.and_two_pow_sub_one_eq_mod]
theorem at_ok (hG : HasBits G) (fv : List Int) (tab : List Nat) (vs : List Int) (n : Nat) (hl : tab.length = 2 ^ fv.length) (hs : fv.Sublist vs) (hnd : vs.Nodup) (hv : vs.length ≤ 30) (hn : n < 2 ^ 31) :
  FP G 105 [FV fv tab, .vs (ints .i64 vs) .no, .int .i64 n] (.int .u32 (sem fv tab (say vs n) : Nat)) := by
 have hfl := hs.length_le
 refine FP_of hG.h_bits_at (Nat.le_of_ble_eq_true rfl) ?_
 simp [FV]
 refine W_state (fun s : Nat × Nat => vs.length - s.1)
  (fun s => [(2, .int .i64 n), (3, .ptr 0 0), (7, .int .i64 (idx (fv.take s.2) (say vs n) : Nat)), (8, .int .i64 s.2), (11, .vs (ints .i64 vs) .no), (12, .int .i64 vs.length), (13, .int .i64 s.1)])
  (fun _ => [some (.cells [.vs (ints .i64 fv) .no, .vs (nats .u32 tab) .no])]) (fun s => s.1 ≤ vs.length ∧ s.2 ≤ fv.length ∧ (fv.drop s.2).Sublist (vs.drop s.1)) (0, 0) ?_ ?_
 ·simp [keep_cl, trunc, hs, idx]
 rintro ⟨i, j⟩ ⟨hi, hj, hsub⟩
 simp only at hi hj hsub
 by_cases hlt : i < vs.length
 ·have hvi : vs.drop i = vs[i] :: vs.drop (i + 1) := List.drop_eq_getElem_cons hlt
  by_cases hjl : j < fv.length
  ·have hfj : fv.drop j = fv[j] :: fv.drop (j + 1) := List.drop_eq_getElem_cons hjl
   by_cases he : fv[j] = vs[i]
   ·have hk : idx (fv.take j) (say vs n) < 2 ^ j := by have := idx_lt (fv.take j) (say vs n); rwa [List.length_take, Nat.min_eq_left hj] at this
    have h30 : 2 ^ j ≤ 2 ^ 30 := Nat.pow_le_pow_right (by decide) (by omega)
    have h1 : n / 2 ^ i < 9223372036854775808 := Nat.lt_of_le_of_lt (Nat.div_le_self _ _) (by omega)
    have h2 : n / 2 ^ i % 2 ≤ 1 := by omega
    have h3 : n / 2 ^ i % 2 * 2 ^ j ≤ 1 * 2 ^ j := Nat.mul_le_mul_right _ h2
    have h4 : idx (fv.take (j + 1)) (say vs n) = idx (fv.take j) (say vs n) ||| n / 2 ^ i % 2 * 2 ^ j := by
     rw [or_bit hk h2, List.take_add_one, idx_append, List.getElem?_eq_getElem hjl, List.length_take, Nat.min_eq_left hj, toNat_bit]
     simp only [Option.toList_some, idx, say, he, List.Nodup.idxOf_getElem hnd, Nat.mul_zero, Nat.add_zero]
    simp (disch := omega) [ltT, get_in, he, shr64, and1 h1, shl64, or64, add1', ltF, -Int.natCast_add, -Int.natCast_mul, -Int.natCast_pow, -Int.natCast_emod, -Int.natCast_ediv]
    refine ⟨(i + 1, j + 1), ?_⟩
    simp [keep_cl, trunc, h4, -Int.natCast_add]
    and_intros <;> first | omega | skip
    rw [hfj, hvi, he] at hsub
    exact List.cons_sublist_cons.1 hsub
   ·simp (disch := omega) [ltT, get_in, add1', beqF he, -Int.natCast_add]
    refine ⟨(i + 1, j), ?_⟩
    simp [keep_cl, trunc, -Int.natCast_add]
    and_intros <;> first | omega | skip
    rw [hfj, hvi] at hsub
    rw [hfj]
    rcases List.sublist_cons_iff.1 hsub with h | ⟨r, hr, _⟩
    ·exact h
    ·exact absurd (List.cons.inj hr).1 he
  ·simp (disch := omega) [ltT, ltF, get_in, add1', -Int.natCast_add]
   refine ⟨(i + 1, j), ?_⟩
   simp [keep_cl, trunc, -Int.natCast_add]
   and_intros <;> first | omega | skip
   rw [List.drop_eq_nil_of_le (as := fv) (by omega)]
   exact List.nil_sublist _
 ·have hjl : j = fv.length := by
   rw [List.drop_eq_nil_of_le (as := vs) (by omega)] at hsub
   have := List.drop_eq_nil_iff.1 (List.sublist_nil.1 hsub)
   omega
  subst hjl
  have := idx_lt fv (say vs n)
  simp (disch := omega) [ltF, get_in, sem, List.getD_eq_getElem?_getD]
end Go.Ev
/- Lemmas that many texts use. -/
namespace Go.Ev
open Go Go.RowKit
variable {G : Tbl}
set_option maxRecDepth 10000
set_option linter.unusedSimpArgs false
set_option linter.unusedVariables false
def HShut (H : Heap) : Prop := ∀ m, H.length ≤ m → H.map (Option.map (Blk.cl m)) = H
theorem shut_trunc {H : Heap} (h : HShut H) (r : Heap) (n : Nat) : trunc (H.length + n) (H ++ r) = H ++ (r.take n).map (Option.map (Blk.cl (H.length + n))) := by
 unfold trunc
 rw [List.take_append, List.map_append]
 congr 1
 ·rw [List.take_of_length_le (by omega)]; exact h _ (by omega)
 ·congr 2; omega
theorem callK_of {ro : Bool} {f : Nat} {args : List V} {r : V} {H H1 : Heap} {K : List Kt} {e : Env} {Q : Ex → Env → Heap → Prop} {base : Nat} {d : Option Nat} {os : List SOper} (h : Big G (.F f args H r H1)) (hro : ro = true → base ≤ H.length ∧ H1.take H.length = H)
  (hr : WO G base os K (e.put d r) H1 Q) : callK G ro f args base d os K e H Q := ⟨r, H1, h, hro, hr⟩
def negW (a : Nat) : Nat := (4294967296 - a) % 4294967296
theorem doW32 (kind : Int) {a b : Nat} (ha : a < 4294967296) (hb : b < 4294967296) : (doW kind a b).1 < 4294967296 := by
 have h1 := Nat.or_lt_two_pow (n := 32) ha hb
 have h2 := Nat.and_lt_two_pow (n := 32) a hb
 have h3 := Nat.xor_lt_two_pow (n := 32) ha hb
 have h4 : a / b ≤ a := Nat.div_le_self _ _
 have h5 : a / 2 ^ (b % 32) ≤ a := Nat.div_le_self _ _
 unfold doW
 repeat' split
 all_goals first
  | (simp only; omega)
  | (simp only; exact Nat.mod_lt _ (by decide))
def bools (l : List Bool) : List (List V) := l.map fun b => [.bool b]
@[simp] theorem bools_length (l : List Bool) : (bools l).length = l.length := by simp [bools]
@[simp] theorem bools_get (l : List Bool) (i : Nat) : (bools l)[i]? = (l[i]?).map fun b => [.bool b] := by simp [bools]
@[simp] theorem bools_nil : bools [] = [] := rfl
@[simp] theorem bools_snoc (l : List Bool) (x : Bool) : bools l ++ [[.bool x]] = bools (l ++ [x]) := by simp [bools]
@[simp] theorem bools_sz (l : List Bool) : (∀ f ∈ bools l, f.length = 1) = True := by
 simp only [eq_iff_iff, iff_true]
 intro f hf
 simp only [bools, List.mem_map] at hf
 obtain ⟨x, _, rfl⟩ := hf
 rfl
end Go.Ev
/- What the functions of bits compute: plain, Do, Eval, Apart. -/
namespace Go.Ev
open Go Go.RowKit
variable {G : Tbl}
set_option maxRecDepth 10000
set_option maxHeartbeats 2000000
set_option linter.unusedSimpArgs false
set_option linter.unusedVariables false
def preT (tab : List Nat) (j n : Nat) : List Nat := ((List.range n).filter fun n => !n.testBit j).map fun n => tab.getD n 0
theorem preT_len (tab : List Nat) (j n : Nat) : (preT tab j n).length ≤ n := by
 have := List.length_filter_le (fun n => !n.testBit j) (List.range n)
 simp [preT] at this ⊢; exact this
theorem preT_yes {tab : List Nat} {j n : Nat} (h : n.testBit j = false) : preT tab j (n + 1) = preT tab j n ++ [tab.getD n 0] := by simp [preT, List.range_succ, List.filter_append, h]
theorem preT_no {tab : List Nat} {j n : Nat} (h : n.testBit j = true) : preT tab j (n + 1) = preT tab j n := by simp [preT, List.range_succ, List.filter_append, h]
theorem plain_ok (hG : HasBits G) (vs : List Int) (tab : List Nat) (hl : tab.length = 2 ^ vs.length) (h4 : vs.length ≤ 4) (hn : vs.Nodup) :
  ∃ vs' tab', FP G 106 [FV vs tab] (FV vs' tab') ∧ vs'.Sublist vs ∧ tab'.length = 2 ^ vs'.length ∧ (∀ p, sem vs' tab' p = sem vs tab p) ∧ ∀ v ∈ vs', dep (sem vs' tab') v := by
 suffices h : ∃ r, FP G 106 [FV vs tab] r ∧ ∃ vs' tab', r = FV vs' tab' ∧ vs'.Sublist vs ∧ tab'.length = 2 ^ vs'.length ∧ (∀ p, sem vs' tab' p = sem vs tab p) ∧ ∀ v ∈ vs', dep (sem vs' tab') v by
  obtain ⟨r, hr, vs', tab', rfl, rest⟩ := h
  exact ⟨vs', tab', hr, rest⟩
 refine FPx_of hG.h_bits_plain (Nat.le_of_ble_eq_true rfl) ?_
 simp [FV]
 refine W_state (fun s : List Int × Tk × List Nat × Nat => s.1.length * 100 + (50 - s.2.2.2))
  (fun s => [(1, .ptr 0 0), (2, .ptr 1 0), (3, .int .i64 s.2.2.2)])
  (fun s => [some (.cells [.vs (ints .i64 s.1) s.2.1, .vs (nats .u32 s.2.2.1) .no]), some (.cells [.vs [] .full, .vs [] .full])])
  (fun s => s.1.Sublist vs ∧ (s.2.1 = .no ∨ s.2.1 = .full) ∧ s.2.2.1.length = 2 ^ s.1.length ∧ (∀ p, sem s.1 s.2.2.1 p = sem vs tab p) ∧ s.2.2.2 ≤ s.1.length ∧ ∀ m, m < s.2.2.2 → cnt s.2.2.1 m = true)
  (vs, .no, tab, 0) ?_ ?_
 ·simp [keep_cl, trunc, hl]
 rintro ⟨us, tk, tb, j⟩ ⟨hsub, htk, htl, hsem, hj, hcnt⟩
 simp only at hsub htk htl hsem hj hcnt
 have hul := hsub.length_le
 have hnd : us.Nodup := hn.sublist hsub
 have h2 : tb.length ≤ 16 := by rw [htl, show 16 = 2 ^ 4 from rfl]; exact Nat.pow_le_pow_right (by decide) (by omega)
 by_cases hlt : j < us.length
 ·simp (disch := omega) [ltT]
  have hfl : V.nf (V.cl 0 (.agg [.vs (ints .i64 us) tk, .vs (nats .u32 tb) .no])) = FV us tb := by rcases htk with rfl | rfl <;> simp [FV]
  refine callP_of (counts_ok hG us tb j (by omega) (by omega) (tab_in (by omega) htl hlt)) ?_
  cases hc : cnt tb j
  case true =>
   simp (disch := omega) [add1', -Int.natCast_add]
   refine ⟨(us, tk, tb, j + 1), ?_⟩
   have hall : ∀ m, m < j + 1 → cnt tb m = true := fun m hm => by
    by_cases e : m = j
    ·subst e; exact hc
    ·exact hcnt m (by omega)
   rcases htk with rfl | rfl <;> (simp [keep_cl, trunc, hsub, htl, hsem, -Int.natCast_add]; exact ⟨by omega, by omega, hall⟩)
  case false =>
   have htc : ∀ n, Tk.cl n tk = tk := fun n => by rcases htk with rfl | rfl <;> rfl
   have hune : us ≠ [] := fun e => by simp [e] at hlt
   have hfull : (us.drop (j + 1)).take (us.length - (j + 1)) = us.drop (j + 1) := by rw [List.take_of_length_le]; simp
   have her : us.eraseIdx j = us.take j ++ us.drop (j + 1) := List.eraseIdx_eq_take_drop_succ us j
   obtain ⟨k, hk⟩ : ∃ k, us.length = k + 1 := ⟨us.length - 1, by omega⟩
   have hle : (us.take j ++ us.drop (j + 1)).length = k := by rw [← her, List.length_eraseIdx_of_lt hlt]; omega
   have remL : (remT tb j).length = 2 ^ k := remT_len (by rw [htl, hk]) (by omega)
   have hsem' : ∀ p, sem (us.take j ++ us.drop (j + 1)) (remT tb j) p = sem vs tab p := fun p => by rw [← her, sem_rem hnd htl hlt hc, hsem]
   have hsubE : (us.take j ++ us.drop (j + 1)).Sublist vs := by rw [← her]; exact (List.eraseIdx_sublist us j).trans hsub
   have hk' : min j us.length + (us.length - (j + 1)) = k := by omega
   have preT_all : preT tb j tb.length = remT tb j := rfl
   by_cases hz : j = 0
   ·have htake : us.take j = [] := by rw [hz]; rfl
    by_cases hla : us.length = j + 1
    ·have hdrop : us.drop (j + 1) = [] := List.drop_eq_nil_of_le (by omega)
     simp (disch := omega) [bounds, leT, addN1, leTn, ints_take, ints_drop, ints_eq_nil, ints_append, eqTn, eqFn, hfull, htake, hdrop, -Int.natCast_add]
     refine W_up tb.length (fun n => [(1, .ptr 0 0), (2, .ptr 1 0), (3, .int .i64 j), (4, .ptr 2 0), (32, .int .i64 tb.length), (33, .int .i64 n)])
      (fun n => [some (.cells [.vs (ints .i64 us) tk, .vs (nats .u32 tb) .no]), some (.cells [.vs [] .full, .vs [] .full]), some (.cells [.vs (ints .i64 (us.take j ++ us.drop (j + 1))) .full, .vs (nats .u32 (preT tb j n)) (.own 5)]), none, none, some (.zone (preT tb j n).length)])
      (fun _ => True) ?_ ?_
     ·simp [keep_cl, trunc, preT, htc, htake, hdrop]
     intro n hn _
     by_cases hnl : n < tb.length
     ·have hpl := preT_len tb j n
      have hb : n / 2 ^ j < 9223372036854775808 := Nat.lt_of_le_of_lt (Nat.div_le_self _ _) (by omega)
      cases hbit : n.testBit j
      ·have hb0 : n / 2 ^ j % 2 = 0 := by rw [toNat_bit, hbit]; rfl
       have hg : tb.getD n 0 = tb[n] := by simp [List.getD_eq_getElem?_getD, hnl]
       simp (disch := omega) [ltT, ltF, shr64, and1 hb, hb0, leTn, get_in, add1', keep_cl, trunc, hnl, preT_yes hbit, hg, htc, -Int.natCast_add, -Int.natCast_ediv, -Int.natCast_emod]
      ·have hb1 : n / 2 ^ j % 2 = 1 := by rw [toNat_bit, hbit]; rfl
       simp (disch := omega) [ltT, ltF, shr64, and1 hb, hb1, get_in, add1', keep_cl, trunc, hnl, preT_no hbit, htc, -Int.natCast_add, -Int.natCast_ediv, -Int.natCast_emod]
     ·have hne : n = tb.length := by omega
      subst hne
      simp (disch := omega) [ltF, addI64]
      refine ⟨(us.eraseIdx j, .full, remT tb j, 0), ?_⟩
      simp [keep_cl, trunc, her, preT_all, remL, hsem', hsubE, htc, hk']
      omega
    ·have hdrop : us.drop (j + 1) ≠ [] := fun e => by have := List.drop_eq_nil_iff.1 e; omega
     simp (disch := omega) [bounds, leT, addN1, leTn, ints_take, ints_drop, ints_eq_nil, ints_append, eqTn, eqFn, hfull, htake, hdrop, -Int.natCast_add]
     refine W_up tb.length (fun n => [(1, .ptr 0 0), (2, .ptr 1 0), (3, .int .i64 j), (4, .ptr 2 0), (32, .int .i64 tb.length), (33, .int .i64 n)])
      (fun n => [some (.cells [.vs (ints .i64 us) tk, .vs (nats .u32 tb) .no]), some (.cells [.vs [] .full, .vs [] .full]), some (.cells [.vs (ints .i64 (us.take j ++ us.drop (j + 1))) (.own 4), .vs (nats .u32 (preT tb j n)) (.own 5)]), none, some (.zone (us.length - (j + 1))), some (.zone (preT tb j n).length)])
      (fun _ => True) ?_ ?_
     ·simp [keep_cl, trunc, preT, htc, htake, hdrop]
     intro n hn _
     by_cases hnl : n < tb.length
     ·have hpl := preT_len tb j n
      have hb : n / 2 ^ j < 9223372036854775808 := Nat.lt_of_le_of_lt (Nat.div_le_self _ _) (by omega)
      cases hbit : n.testBit j
      ·have hb0 : n / 2 ^ j % 2 = 0 := by rw [toNat_bit, hbit]; rfl
       have hg : tb.getD n 0 = tb[n] := by simp [List.getD_eq_getElem?_getD, hnl]
       simp (disch := omega) [ltT, ltF, shr64, and1 hb, hb0, leTn, get_in, add1', keep_cl, trunc, hnl, preT_yes hbit, hg, htc, -Int.natCast_add, -Int.natCast_ediv, -Int.natCast_emod]
      ·have hb1 : n / 2 ^ j % 2 = 1 := by rw [toNat_bit, hbit]; rfl
       simp (disch := omega) [ltT, ltF, shr64, and1 hb, hb1, get_in, add1', keep_cl, trunc, hnl, preT_no hbit, htc, -Int.natCast_add, -Int.natCast_ediv, -Int.natCast_emod]
     ·have hne : n = tb.length := by omega
      subst hne
      simp (disch := omega) [ltF, addI64]
      refine ⟨(us.eraseIdx j, .no, remT tb j, 0), ?_⟩
      simp [keep_cl, trunc, her, preT_all, remL, hsem', hsubE, htc, hk']
      omega
   ·have htake : us.take j ≠ [] := fun e => by rcases List.take_eq_nil_iff.1 e with h | h; exact hz h; exact hune h
    by_cases hla : us.length = j + 1
    ·have hdrop : us.drop (j + 1) = [] := List.drop_eq_nil_of_le (by omega)
     simp (disch := omega) [bounds, leT, addN1, leTn, ints_take, ints_drop, ints_eq_nil, ints_append, eqTn, eqFn, hfull, htake, hdrop, -Int.natCast_add]
     refine W_up tb.length (fun n => [(1, .ptr 0 0), (2, .ptr 1 0), (3, .int .i64 j), (4, .ptr 2 0), (32, .int .i64 tb.length), (33, .int .i64 n)])
      (fun n => [some (.cells [.vs (ints .i64 us) tk, .vs (nats .u32 tb) .no]), some (.cells [.vs [] .full, .vs [] .full]), some (.cells [.vs (ints .i64 (us.take j ++ us.drop (j + 1))) (.own 3), .vs (nats .u32 (preT tb j n)) (.own 5)]), some (.zone j), none, some (.zone (preT tb j n).length)])
      (fun _ => True) ?_ ?_
     ·simp [keep_cl, trunc, preT, htc, htake, hdrop]
     intro n hn _
     by_cases hnl : n < tb.length
     ·have hpl := preT_len tb j n
      have hb : n / 2 ^ j < 9223372036854775808 := Nat.lt_of_le_of_lt (Nat.div_le_self _ _) (by omega)
      cases hbit : n.testBit j
      ·have hb0 : n / 2 ^ j % 2 = 0 := by rw [toNat_bit, hbit]; rfl
       have hg : tb.getD n 0 = tb[n] := by simp [List.getD_eq_getElem?_getD, hnl]
       simp (disch := omega) [ltT, ltF, shr64, and1 hb, hb0, leTn, get_in, add1', keep_cl, trunc, hnl, preT_yes hbit, hg, htc, -Int.natCast_add, -Int.natCast_ediv, -Int.natCast_emod]
      ·have hb1 : n / 2 ^ j % 2 = 1 := by rw [toNat_bit, hbit]; rfl
       simp (disch := omega) [ltT, ltF, shr64, and1 hb, hb1, get_in, add1', keep_cl, trunc, hnl, preT_no hbit, htc, -Int.natCast_add, -Int.natCast_ediv, -Int.natCast_emod]
     ·have hne : n = tb.length := by omega
      subst hne
      simp (disch := omega) [ltF, addI64]
      refine ⟨(us.eraseIdx j, .no, remT tb j, 0), ?_⟩
      simp [keep_cl, trunc, her, preT_all, remL, hsem', hsubE, htc, hk']
      omega
    ·have hdrop : us.drop (j + 1) ≠ [] := fun e => by have := List.drop_eq_nil_iff.1 e; omega
     simp (disch := omega) [bounds, leT, addN1, leTn, ints_take, ints_drop, ints_eq_nil, ints_append, eqTn, eqFn, hfull, htake, hdrop, -Int.natCast_add]
     refine W_up tb.length (fun n => [(1, .ptr 0 0), (2, .ptr 1 0), (3, .int .i64 j), (4, .ptr 2 0), (32, .int .i64 tb.length), (33, .int .i64 n)])
      (fun n => [some (.cells [.vs (ints .i64 us) tk, .vs (nats .u32 tb) .no]), some (.cells [.vs [] .full, .vs [] .full]), some (.cells [.vs (ints .i64 (us.take j ++ us.drop (j + 1))) (.own 3), .vs (nats .u32 (preT tb j n)) (.own 5)]), some (.zone (j + (us.length - (j + 1)))), none, some (.zone (preT tb j n).length)])
      (fun _ => True) ?_ ?_
     ·simp [keep_cl, trunc, preT, htc, htake, hdrop]
     intro n hn _
     by_cases hnl : n < tb.length
     ·have hpl := preT_len tb j n
      have hb : n / 2 ^ j < 9223372036854775808 := Nat.lt_of_le_of_lt (Nat.div_le_self _ _) (by omega)
      cases hbit : n.testBit j
      ·have hb0 : n / 2 ^ j % 2 = 0 := by rw [toNat_bit, hbit]; rfl
       have hg : tb.getD n 0 = tb[n] := by simp [List.getD_eq_getElem?_getD, hnl]
       simp (disch := omega) [ltT, ltF, shr64, and1 hb, hb0, leTn, get_in, add1', keep_cl, trunc, hnl, preT_yes hbit, hg, htc, -Int.natCast_add, -Int.natCast_ediv, -Int.natCast_emod]
      ·have hb1 : n / 2 ^ j % 2 = 1 := by rw [toNat_bit, hbit]; rfl
       simp (disch := omega) [ltT, ltF, shr64, and1 hb, hb1, get_in, add1', keep_cl, trunc, hnl, preT_no hbit, htc, -Int.natCast_add, -Int.natCast_ediv, -Int.natCast_emod]
     ·have hne : n = tb.length := by omega
      subst hne
      simp (disch := omega) [ltF, addI64]
      refine ⟨(us.eraseIdx j, .no, remT tb j, 0), ?_⟩
      simp [keep_cl, trunc, her, preT_all, remL, hsem', hsubE, htc, hk']
      omega
 ·have hju : j = us.length := by omega
  subst hju
  simp (disch := omega) [ltF]
  refine ⟨us, tb, ?_⟩
  have hd : ∀ v ∈ us, dep (sem us tb) v := fun v hv => by
   obtain ⟨i, hi, rfl⟩ := List.mem_iff_getElem.1 hv
   exact (cnt_iff hnd htl (List.getElem?_eq_getElem hi)).1 (hcnt i hi)
  rcases htk with rfl | rfl <;> simp [FV, hsub, htl, hsem] <;> exact hd
end Go.Ev
/- What the functions of bits compute: Do, Eval, Apart. -/
namespace Go.Ev
open Go Go.RowKit
variable {G : Tbl}
set_option maxRecDepth 10000
set_option maxHeartbeats 2000000
set_option linter.unusedSimpArgs false
set_option linter.unusedVariables false
theorem sem_lt {vs : List Int} {tab : List Nat} (h : ∀ w ∈ tab, w < 4294967296) (p : Int → Bool) : sem vs tab p < 4294967296 := by
 simp only [sem, List.getD_eq_getElem?_getD]
 cases hq : tab[idx vs p]? with
 | none => simp
 | some w => exact h w (List.mem_of_getElem? hq)
theorem tell_ok (hG : HasBits G) (kind : Int) (fv gv vs : List Int) (ft gt : List Nat) (b3 b5 b6 : Option Blk) (x : V) (n : Nat)
  (hf : ft.length = 2 ^ fv.length) (hg : gt.length = 2 ^ gv.length) (hft : ∀ w ∈ ft, w < 4294967296) (hgt : ∀ w ∈ gt, w < 4294967296)
  (hfs : fv.Sublist vs) (hgs : gv.Sublist vs) (hnd : vs.Nodup) (hv : vs.length ≤ 30) (hn : n < 2 ^ 31)
  (H : Heap) (hH : H = [some (.cells [.int .i64 kind]), some (.cells [.vs (ints .i64 fv) .no, .vs (nats .u32 ft) .no]), some (.cells [.vs (ints .i64 gv) .no, .vs (nats .u32 gt) .no]), b3, some (.cells [.vs (ints .i64 vs) .no, x]), b5, b6]) :
  Big G (.F 108 [.int .i64 n, .ptr 0 0, .ptr 1 0, .ptr 4 0, .ptr 2 0] H (.int .u32 ((doW kind (sem fv ft (say vs n)) (sem gv gt (say vs n))).1 : Nat)) H) := by
 subst hH
 refine F_of hG.h_bits_Do_1 (Nat.le_of_ble_eq_true rfl) ?_
 simp
 refine callP_of (at_ok hG fv ft vs n hf hfs hnd hv hn) ?_
 simp
 refine callP_of (at_ok hG gv gt vs n hg hgs hnd hv hn) ?_
 simp
 refine callP_of (doW_ok hG.toHasWd kind _ _ (sem_lt hft _) (sem_lt hgt _)) ?_
 simp
def DoOk (kind : Int) (fv gv : List Int) (ft gt : List Nat) : Prop := (kind = 68 ∨ kind = 84 ∨ kind = 164) ∧ Right fv ft ∧ Right gv gt ∧ (mer fv gv).length ≤ 4
theorem doW_lt {kind : Int} {a b : Nat} (h : kind = 68 ∨ kind = 84 ∨ kind = 164) (ha : a < 4294967296) (hb : b < 4294967296) : (doW kind a b).1 < 4294967296 := by
 rcases h with rfl | rfl | rfl <;> simp [doW]
 ·exact Nat.or_lt_two_pow (n := 32) ha hb
 ·exact Nat.and_lt_two_pow (n := 32) _ hb
 ·exact Nat.xor_lt_two_pow (n := 32) ha hb
theorem Do_ok (hG : HasBits G) (kind : Int) (fv gv : List Int) (ft gt : List Nat) (hfl : fv.length ≤ 9223372036854775807) (hgl : gv.length ≤ 9223372036854775807) (hfl' : ft.length ≤ 9223372036854775807) (hgl' : gt.length ≤ 9223372036854775807)
  (hft : ∀ w ∈ ft, w < 4294967296) (hgt : ∀ w ∈ gt, w < 4294967296) :
  ∃ r, FP G 109 [.int .i64 kind, FV fv ft, FV gv gt] r ∧
   ((¬ DoOk kind fv gv ft gt ∧ r = .tup [FV [] [], .bool false]) ∨
    (DoOk kind fv gv ft gt ∧ ∃ vs tab, r = .tup [FV vs tab, .bool true] ∧ Right vs tab ∧ (∀ w ∈ tab, w < 4294967296) ∧ ∀ p, sem vs tab p = (doW kind (sem fv ft p) (sem gv gt p)).1)) := by
 refine FPx_of hG.h_bits_Do (Nat.le_of_ble_eq_true rfl) ?_
 simp [FV]
 by_cases hk : kind = 68 ∨ kind = 84 ∨ kind = 164
 case neg =>
  have h1 : kind ≠ 68 := fun e => hk (.inl e)
  have h2 : kind ≠ 84 := fun e => hk (.inr (.inl e))
  have h3 : kind ≠ 164 := fun e => hk (.inr (.inr e))
  simp [h1, h2, h3, bneT, DoOk, FV]
 have bad : ∀ b : Bool, rightB fv ft = b → True := fun _ _ => trivial
 cases hrf : rightB fv ft
 ·have hnr : ¬ Right fv ft := fun h => by rw [rightB_iff.2 h] at hrf; cases hrf
  rcases hk with rfl | rfl | rfl <;> (simp; refine callP_of (Right_ok hG fv ft hfl hfl') ?_; simp [hrf, DoOk, hnr, FV])
 cases hrg : rightB gv gt
 ·have hnr : ¬ Right gv gt := fun h => by rw [rightB_iff.2 h] at hrg; cases hrg
  rcases hk with rfl | rfl | rfl <;> (simp; refine callP_of (Right_ok hG fv ft hfl hfl') ?_; simp [hrf]; refine callP_of (Right_ok hG gv gt hgl hgl') ?_; simp [hrg, DoOk, hnr, FV])
 have Rf := rightB_iff.1 hrf
 have Rg := rightB_iff.1 hrg
 have hml := mer_len fv gv
 have h4f := Rf.1
 have h4g := Rg.1
 by_cases hm : (mer fv gv).length ≤ 4
 case neg =>
  rcases hk with rfl | rfl | rfl <;> (simp; refine callP_of (Right_ok hG fv ft hfl hfl') ?_; simp [hrf]; refine callP_of (Right_ok hG gv gt hgl hgl') ?_; simp [hrg]
                                      refine callP_of (union_ok hG fv gv (by omega)) ?_; simp (disch := omega) [ltT, DoOk, hm, FV])
 have hup := mer_up fv gv Rf.up Rg.up
 have hnd := hup.nodup
 have hfs : fv.Sublist (mer fv gv) := up_sub Rf.up hup fun v hv => (mem_mer _ _).2 (.inl hv)
 have hgs : gv.Sublist (mer fv gv) := up_sub Rg.up hup fun v hv => (mem_mer _ _).2 (.inr hv)
 have hok : DoOk kind fv gv ft gt := ⟨hk, Rf, Rg, hm⟩
 have h16 : 2 ^ (mer fv gv).length ≤ 16 := by rw [show 16 = 2 ^ 4 from rfl]; exact Nat.pow_le_pow_right (by decide) hm
 obtain ⟨vs', tab', hp, hsub, htl, hsem, hdep⟩ := plain_ok hG (mer fv gv) ((List.range (2 ^ (mer fv gv).length)).map fun n => (doW kind (sem fv ft (say (mer fv gv) n)) (sem gv gt (say (mer fv gv) n))).1) (by simp) hm hnd
 have hval : ∀ p, sem vs' tab' p = (doW kind (sem fv ft p) (sem gv gt p)).1 := fun p => by
  rw [hsem]
  have hlt := idx_lt (mer fv gv) p
  have e1 : sem fv ft (say (mer fv gv) (idx (mer fv gv) p)) = sem fv ft p := sem_ext fun v hv => say_idx ((mem_mer _ _).2 (.inl hv)) p
  have e2 : sem gv gt (say (mer fv gv) (idx (mer fv gv) p)) = sem gv gt p := sem_ext fun v hv => say_idx ((mem_mer _ _).2 (.inr hv)) p
  rw [sem]
  simp [List.getD_eq_getElem?_getD, hlt, e1, e2]
 have hup' : Up vs' := hup.sublist hsub
 have hR : Right vs' tab' := by
  refine Right.of (Nat.le_trans hsub.length_le hm) htl hup' (fun v hv => ?_) hdep
  rcases (mem_mer _ _).1 (hsub.subset hv) with h | h
  ·exact Rf.mem h
  ·exact Rg.mem h
 have hw : ∀ w ∈ tab', w < 4294967296 := fun w hw => by
  obtain ⟨n, hn, rfl⟩ := List.mem_iff_getElem.1 hw
  rw [tab_get hup'.nodup htl hn, hval]
  exact doW_lt hk (sem_lt hft _) (sem_lt hgt _)
 have fin : DoOk kind fv gv ft gt ∧ ∃ vs tab, V.tup [FV vs' tab', .bool true] = .tup [FV vs tab, .bool true] ∧ Right vs tab ∧ (∀ w ∈ tab, w < 4294967296) ∧ ∀ p, sem vs tab p = (doW kind (sem fv ft p) (sem gv gt p)).1 :=
  ⟨hok, vs', tab', rfl, hR, hw, hval⟩
 rcases hk with rfl | rfl | rfl
 ·simp; refine callP_of (Right_ok hG fv ft hfl hfl') ?_; simp [hrf]; refine callP_of (Right_ok hG gv gt hgl hgl') ?_; simp [hrg]
  refine callP_of (union_ok hG fv gv (by omega)) ?_
  simp (disch := omega) [ltT, ltF, shl1, -Int.natCast_pow]
  refine W_up (2 ^ (mer fv gv).length) (fun n => [(6, .ptr 3 0), (8, .ptr 4 0), (9, .fn 108 [.ptr 0 0, .ptr 1 0, .ptr 4 0, .ptr 2 0]), (47, .int .i64 (2 ^ (mer fv gv).length : Nat)), (48, .int .i64 n)])
   (fun n => [some (.cells [.int .i64 68]), some (.cells [.vs (ints .i64 fv) .no, .vs (nats .u32 ft) .no]), some (.cells [.vs (ints .i64 gv) .no, .vs (nats .u32 gt) .no]), some (.cells [.vs [] .full, .vs [] .full]),
    some (.cells [.vs (ints .i64 (mer fv gv)) .no, .vs (nats .u32 ((List.range n).map fun n => (doW 68 (sem fv ft (say (mer fv gv) n)) (sem gv gt (say (mer fv gv) n))).1)) (.own 5)]), some (.zone n)])
   (fun _ => True) ?_ ?_
  ·simp [keep_cl, trunc, -Int.natCast_pow]
  intro n hn _
  by_cases hlt : n < 2 ^ (mer fv gv).length
  ·simp (disch := omega) [ltT, -Int.natCast_pow, -Int.natCast_add]
   refine callV_of (tell_ok hG 68 fv gv (mer fv gv) ft gt _ _ _ _ n Rf.2.1 Rg.2.1 hft hgt hfs hgs hnd (by omega) (by omega) _ rfl) (by simp [trunc]) ?_
   simp (disch := omega) [leTn, add1', trunc, keep_cl, hlt, List.range_succ, -Int.natCast_pow, -Int.natCast_add]
  ·have hne : n = 2 ^ (mer fv gv).length := by omega
   subst hne
   simp (disch := omega) [ltF, -Int.natCast_pow]
   refine callP_of hp ?_
   simp [FV]
   exact ⟨fin.1, vs', tab', ⟨rfl, rfl⟩, hR, hw, hval⟩
 ·simp; refine callP_of (Right_ok hG fv ft hfl hfl') ?_; simp [hrf]; refine callP_of (Right_ok hG gv gt hgl hgl') ?_; simp [hrg]
  refine callP_of (union_ok hG fv gv (by omega)) ?_
  simp (disch := omega) [ltT, ltF, shl1, -Int.natCast_pow]
  refine W_up (2 ^ (mer fv gv).length) (fun n => [(6, .ptr 3 0), (8, .ptr 4 0), (9, .fn 108 [.ptr 0 0, .ptr 1 0, .ptr 4 0, .ptr 2 0]), (47, .int .i64 (2 ^ (mer fv gv).length : Nat)), (48, .int .i64 n)])
   (fun n => [some (.cells [.int .i64 84]), some (.cells [.vs (ints .i64 fv) .no, .vs (nats .u32 ft) .no]), some (.cells [.vs (ints .i64 gv) .no, .vs (nats .u32 gt) .no]), some (.cells [.vs [] .full, .vs [] .full]),
    some (.cells [.vs (ints .i64 (mer fv gv)) .no, .vs (nats .u32 ((List.range n).map fun n => (doW 84 (sem fv ft (say (mer fv gv) n)) (sem gv gt (say (mer fv gv) n))).1)) (.own 5)]), some (.zone n)])
   (fun _ => True) ?_ ?_
  ·simp [keep_cl, trunc, -Int.natCast_pow]
  intro n hn _
  by_cases hlt : n < 2 ^ (mer fv gv).length
  ·simp (disch := omega) [ltT, -Int.natCast_pow, -Int.natCast_add]
   refine callV_of (tell_ok hG 84 fv gv (mer fv gv) ft gt _ _ _ _ n Rf.2.1 Rg.2.1 hft hgt hfs hgs hnd (by omega) (by omega) _ rfl) (by simp [trunc]) ?_
   simp (disch := omega) [leTn, add1', trunc, keep_cl, hlt, List.range_succ, -Int.natCast_pow, -Int.natCast_add]
  ·have hne : n = 2 ^ (mer fv gv).length := by omega
   subst hne
   simp (disch := omega) [ltF, -Int.natCast_pow]
   refine callP_of hp ?_
   simp [FV]
   exact ⟨fin.1, vs', tab', ⟨rfl, rfl⟩, hR, hw, hval⟩
 ·simp; refine callP_of (Right_ok hG fv ft hfl hfl') ?_; simp [hrf]; refine callP_of (Right_ok hG gv gt hgl hgl') ?_; simp [hrg]
  refine callP_of (union_ok hG fv gv (by omega)) ?_
  simp (disch := omega) [ltT, ltF, shl1, -Int.natCast_pow]
  refine W_up (2 ^ (mer fv gv).length) (fun n => [(6, .ptr 3 0), (8, .ptr 4 0), (9, .fn 108 [.ptr 0 0, .ptr 1 0, .ptr 4 0, .ptr 2 0]), (47, .int .i64 (2 ^ (mer fv gv).length : Nat)), (48, .int .i64 n)])
   (fun n => [some (.cells [.int .i64 164]), some (.cells [.vs (ints .i64 fv) .no, .vs (nats .u32 ft) .no]), some (.cells [.vs (ints .i64 gv) .no, .vs (nats .u32 gt) .no]), some (.cells [.vs [] .full, .vs [] .full]),
    some (.cells [.vs (ints .i64 (mer fv gv)) .no, .vs (nats .u32 ((List.range n).map fun n => (doW 164 (sem fv ft (say (mer fv gv) n)) (sem gv gt (say (mer fv gv) n))).1)) (.own 5)]), some (.zone n)])
   (fun _ => True) ?_ ?_
  ·simp [keep_cl, trunc, -Int.natCast_pow]
  intro n hn _
  by_cases hlt : n < 2 ^ (mer fv gv).length
  ·simp (disch := omega) [ltT, -Int.natCast_pow, -Int.natCast_add]
   refine callV_of (tell_ok hG 164 fv gv (mer fv gv) ft gt _ _ _ _ n Rf.2.1 Rg.2.1 hft hgt hfs hgs hnd (by omega) (by omega) _ rfl) (by simp [trunc]) ?_
   simp (disch := omega) [leTn, add1', trunc, keep_cl, hlt, List.range_succ, -Int.natCast_pow, -Int.natCast_add]
  ·have hne : n = 2 ^ (mer fv gv).length := by omega
   subst hne
   simp (disch := omega) [ltF, -Int.natCast_pow]
   refine callP_of hp ?_
   simp [FV]
   exact ⟨fin.1, vs', tab', ⟨rfl, rfl⟩, hR, hw, hval⟩
def asg (r : List Nat) : Int → Nat := fun v => r.getD v.toNat 0
theorem and_bit (w i : Nat) : w &&& 2 ^ i = 2 ^ i * (w.testBit i).toNat := by
 refine Nat.eq_of_testBit_eq fun j => ?_
 rw [Nat.testBit_and, Nat.testBit_two_pow, Nat.testBit_two_pow_mul]
 by_cases h : i = j
 ·subst h; cases w.testBit i <;> simp
 ·by_cases h2 : i ≤ j
  ·have : (w.testBit i).toNat < 2 ^ (j - i) := Nat.lt_of_lt_of_le (by cases w.testBit i <;> simp : (w.testBit i).toNat < 2 ^ 1) (Nat.pow_le_pow_right (by decide) (by omega))
   rw [Nat.testBit_lt_two_pow this]; simp [h]
  ·simp [h, h2]
theorem and1w {b : Nat} (hb : b < 4294967296) : andI .u32 (b : Int) 1 = ((b % 2 : Nat) : Int) := by
 have := and32 (a := b) (b := 1) hb (by decide)
 rw [show ((1 : Nat) : Int) = 1 from rfl] at this
 rw [this, show (1 : Nat) = 2 ^ 1 - 1 from rfl, Nat.and_two_pow_sub_one_eq_mod]
theorem conv64 {b : Nat} (hb : b < 9223372036854775808) : convI .i64 (b : Int) = (b : Int) := wrap_nat64 hb
theorem shl1w {i : Nat} (hi : i < 32) : shlI .u32 1 (i : Int) = ((2 ^ i : Nat) : Int) := by
 have := shl32 (a := 1) (j := i) (by omega)
 rw [Nat.one_mul, Nat.mod_eq_of_lt (show 2 ^ i < 4294967296 from Nat.pow_lt_pow_right (a := 2) (n := 32) (by decide) hi)] at this
 exact this
theorem wordOf_step {f : Nat → Bool} {i : Nat} (w : Nat) (h : f i = w.testBit i) : wordOf f i ||| (w &&& 2 ^ i) = wordOf f (i + 1) := by
 rw [and_bit, wordOf, h, Nat.or_comm, ← Nat.two_pow_add_eq_or_of_lt (wordOf_lt f i)]; omega
theorem Eval_ok (hE : HasBitsE G) (vs : List Int) (tab : List Nat) (r : List Nat) (hl : vs.length ≤ 9223372036854775807) (hl' : tab.length ≤ 9223372036854775807)
  (ht : ∀ w ∈ tab, w < 4294967296) (hr : r.length = 34) (hrw : ∀ w ∈ r, w < 4294967296) :
  FP G 110 [FV vs tab, .agg (cnats .u32 r)] (.tup [.int .u32 (if rightB vs tab then (val vs tab (asg r) : Nat) else (0 : Nat)), .bool (rightB vs tab)]) := by
 have hG : HasBits G := hE.toHasBits
 refine FP_of hE.h_bits_Eval (Nat.le_of_ble_eq_true rfl) ?_
 simp [FV]
 refine callP_of (Right_ok hG vs tab hl hl') ?_
 cases hR : rightB vs tab
 ·simp
 have R := rightB_iff.1 hR
 have h4 := R.1
 simp
 refine W_up 32 (fun i => [(2, .ptr 0 0), (3, .ptr 1 0), (6, .int .u32 (wordOf (fun i => (sem vs tab fun v => (asg r v).testBit i).testBit i) i : Nat)), (14, .int .i64 i)])
  (fun _ => [some (.cells [.vs (ints .i64 vs) .no, .vs (nats .u32 tab) .no]), some (.cells (cnats .u32 r))]) (fun _ => True) ?_ ?_
 ·simp [keep_cl, trunc, wordOf]
 intro i hi _
 by_cases hlt : i < 32
 ·simp (disch := omega) [ltT, -Int.natCast_add]
  refine W_up vs.length (fun j => [(2, .ptr 0 0), (3, .ptr 1 0), (6, .int .u32 (wordOf (fun i => (sem vs tab fun v => (asg r v).testBit i).testBit i) i : Nat)), (7, .int .i64 i), (8, .int .i64 (idx (vs.take j) (fun v => (asg r v).testBit i) : Nat)), (14, .int .i64 i), (18, .vs (ints .i64 vs) .no), (19, .int .i64 vs.length), (20, .int .i64 j)])
   (fun _ => [some (.cells [.vs (ints .i64 vs) .no, .vs (nats .u32 tab) .no]), some (.cells (cnats .u32 r))]) (fun _ => True) ?_ ?_
  ·simp [keep_cl, trunc, idx]
  intro j hj _
  by_cases hjl : j < vs.length
  ·have hm := R.mem (List.getElem_mem hjl)
   have hx : vs[j].toNat < r.length := by omega
   have hcell := cnats_get .u32 r vs[j].toNat hx
   have hrx := hrw _ (List.getElem_mem hx)
   have hd : r[vs[j].toNat] / 2 ^ i < 4294967296 := Nat.lt_of_le_of_lt (Nat.div_le_self _ _) hrx
   have hk : idx (vs.take j) (fun v => (asg r v).testBit i) < 2 ^ j := by have := idx_lt (vs.take j) (fun v => (asg r v).testBit i); rwa [List.length_take, Nat.min_eq_left (by omega)] at this
   have h30 : 2 ^ j ≤ 2 ^ 30 := Nat.pow_le_pow_right (by decide) (by omega)
   have h2 : r[vs[j].toNat] / 2 ^ i % 2 ≤ 1 := by omega
   have h3 : r[vs[j].toNat] / 2 ^ i % 2 * 2 ^ j ≤ 1 * 2 ^ j := Nat.mul_le_mul_right _ h2
   have h5 : idx (vs.take (j + 1)) (fun v => (asg r v).testBit i) = idx (vs.take j) (fun v => (asg r v).testBit i) ||| r[vs[j].toNat] / 2 ^ i % 2 * 2 ^ j := by
    rw [or_bit hk h2, List.take_add_one, idx_append, List.getElem?_eq_getElem hjl, List.length_take, Nat.min_eq_left (by omega), toNat_bit]
    have : asg r vs[j] = r[vs[j].toNat] := by simp [asg, List.getD_eq_getElem?_getD, hx]
    simp only [Option.toList_some, idx, this, Nat.mul_zero, Nat.add_zero]
   simp (disch := omega) [ltT, ltF, leT, get_in, leTn, hcell, shr32, and1w hd, conv64, shl64, or64, add1', keep_cl, trunc, hjl, h5, -Int.natCast_add, -Int.natCast_mul, -Int.natCast_pow, -Int.natCast_emod, -Int.natCast_ediv, -List.getElem?_drop]
  ·have hne : j = vs.length := by omega
   subst hne
   have hk := idx_lt vs (fun v => (asg r v).testBit i)
   rw [← R.2.1] at hk
   have hw := ht _ (List.getElem_mem hk)
   have hp : 2 ^ i < 4294967296 := Nat.pow_lt_pow_right (a := 2) (n := 32) (by decide) hlt
   have hu : wordOf (fun i => (sem vs tab fun v => (asg r v).testBit i).testBit i) i < 4294967296 := Nat.lt_trans (wordOf_lt _ i) hp
   have ha : tab[idx vs (fun v => (asg r v).testBit i)] &&& 2 ^ i < 4294967296 := Nat.lt_of_le_of_lt Nat.and_le_left hw
   have hs : sem vs tab (fun v => (asg r v).testBit i) = tab[idx vs (fun v => (asg r v).testBit i)] := by simp [sem, List.getD_eq_getElem?_getD, hk]
   have hstep := wordOf_step (f := fun i => (sem vs tab fun v => (asg r v).testBit i).testBit i) (i := i) (tab[idx vs (fun v => (asg r v).testBit i)]) (by simp only [hs])
   simp (disch := omega) [ltF, leT, get_in, shl1w hlt, and32, or32, hstep, add1', keep_cl, trunc, hlt, -Int.natCast_add, -Int.natCast_pow]
 ·have hne : i = 32 := by omega
  subst hne
  simp [val]
def asgn (vs : List Int) (p : Int → Bool) : List Nat := (List.range 34).map fun (i : Nat) => if (i : Int) ∈ vs ∧ p (i : Int) = true then 4294967295 else 0
theorem asgn_nil (p : Int → Bool) : asgn [] p = zeros 34 := by simp [asgn, zeros]; rfl
theorem asgn_step {vs : List Int} (hn : vs.Nodup) (p : Int → Bool) {j : Nat} (hj : j < vs.length) (h0 : 0 ≤ vs[j]) :
  asgn (vs.take (j + 1)) p = (asgn (vs.take j) p).set vs[j].toNat (if p vs[j] then 4294967295 else 0) := by
 refine List.ext_getElem (by simp [asgn]) fun i h1 h2 => ?_
 simp only [asgn, List.getElem_map, List.getElem_range, List.getElem_set]
 have hmem : vs.take (j + 1) = vs.take j ++ [vs[j]] := by rw [List.take_add_one, List.getElem?_eq_getElem hj]; rfl
 have e1 : ((i : Int) ∈ vs.take (j + 1)) ↔ ((i : Int) ∈ vs.take j ∨ (i : Int) = vs[j]) := by rw [hmem]; simp only [List.mem_append, List.mem_singleton]
 by_cases e : vs[j].toNat = i
 ·rw [if_pos e]
  have : (i : Int) = vs[j] := by omega
  have hin := e1.2 (.inr this)
  rw [this] at hin
  simp only [this, hin, true_and]
 ·rw [if_neg e]
  have : ¬ (i : Int) = vs[j] := by omega
  simp only [e1, this, or_false]
def firstD (fv gv : List Int) (ft gt : List Nat) : Option Nat := (List.range (2 ^ (mer fv gv).length)).find? fun n => sem fv ft (say (mer fv gv) n) != sem gv gt (say (mer fv gv) n)
noncomputable def apartF (fv gv : List Int) (ft gt : List Nat) : List Nat × Bool :=
 if rightB fv ft = true ∧ rightB gv gt = true then (match firstD fv gv ft gt with
  | some n => (asgn (mer fv gv) (say (mer fv gv) n), true)
  | none => (zeros 34, false)) else (zeros 34, false)
theorem Apart_ok (hA : HasBitsA G) (fv gv : List Int) (ft gt : List Nat) (hfl : fv.length ≤ 9223372036854775807) (hgl : gv.length ≤ 9223372036854775807) (hfl' : ft.length ≤ 9223372036854775807) (hgl' : gt.length ≤ 9223372036854775807)
  (hft : ∀ w ∈ ft, w < 4294967296) (hgt : ∀ w ∈ gt, w < 4294967296) :
  FP G 112 [FV fv ft, FV gv gt] (.tup [.agg (cnats .u32 (apartF fv gv ft gt).1), .bool (apartF fv gv ft gt).2]) := by
 have hG : HasBits G := hA.toHasBits
 refine FP_of hA.h_bits_Apart (Nat.le_of_ble_eq_true rfl) ?_
 simp [FV]
 refine callP_of (Right_ok hG fv ft hfl hfl') ?_
 cases hrf : rightB fv ft
 ·simp [apartF, hrf]
 simp [-List.reduceReplicate]
 refine callP_of (Right_ok hG gv gt hgl hgl') ?_
 cases hrg : rightB gv gt
 ·simp [apartF, hrf, hrg]
 have Rf := rightB_iff.1 hrf
 have Rg := rightB_iff.1 hrg
 have hml := mer_len fv gv
 have h4f := Rf.1
 have h4g := Rg.1
 simp [-List.reduceReplicate]
 refine callP_of (union_ok hG fv gv (by omega)) ?_
 have hup := mer_up fv gv Rf.up Rg.up
 have hnd := hup.nodup
 have hfs : fv.Sublist (mer fv gv) := up_sub Rf.up hup fun v hv => (mem_mer _ _).2 (.inl hv)
 have hgs : gv.Sublist (mer fv gv) := up_sub Rg.up hup fun v hv => (mem_mer _ _).2 (.inr hv)
 have h256 : 2 ^ (mer fv gv).length ≤ 256 := by rw [show 256 = 2 ^ 8 from rfl]; exact Nat.pow_le_pow_right (by decide) (by omega)
 have hm34 : ∀ v ∈ mer fv gv, 0 ≤ v ∧ v < 34 := fun v hv => by
  rcases (mem_mer _ _).1 hv with h | h
  ·exact Rf.mem h
  ·exact Rg.mem h
 generalize hM : mer fv gv = M at *
 simp (disch := omega) [ltT, ltF, shl1, -Int.natCast_pow]
 refine W_up (2 ^ M.length) (fun n => [(2, .ptr 0 0), (3, .ptr 1 0), (4, .ptr 2 0), (6, .ptr 3 0), (7, .vs (ints .i64 M) .no), (27, .int .i64 (2 ^ M.length : Nat)), (28, .int .i64 n)])
  (fun n => [some (.cells [.vs (ints .i64 fv) .no, .vs (nats .u32 ft) .no]), some (.cells [.vs (ints .i64 gv) .no, .vs (nats .u32 gt) .no]), some (.cells (cnats .u32 (zeros 34))), some (.cells (cnats .u32 (zeros 34)))])
  (fun n => ∀ m, m < n → sem fv ft (say M m) = sem gv gt (say M m)) ?_ ?_
 ·simp [keep_cl, trunc, -Int.natCast_pow]
 intro n hn hall
 by_cases hlt : n < 2 ^ M.length
 ·simp (disch := omega) [ltT, -Int.natCast_pow, -Int.natCast_add]
  refine callP_of (at_ok hG fv ft M n Rf.2.1 hfs hnd (by omega) (by omega)) ?_
  simp [-Int.natCast_pow, -Int.natCast_add]
  refine callP_of (at_ok hG gv gt M n Rg.2.1 hgs hnd (by omega) (by omega)) ?_
  by_cases he : sem fv ft (say M n) = sem gv gt (say M n)
  ·simp (disch := omega) [he, add1', keep_cl, trunc, hlt, -Int.natCast_pow, -Int.natCast_add]
   intro m hm
   by_cases hmn : m = n
   ·subst hmn; exact he
   ·exact hall m (by omega)
  ·have hfirst : firstD fv gv ft gt = some n := by
    rw [firstD, hM, List.find?_range_eq_some]
    exact ⟨by simpa using he, by simpa using hlt, fun m hm => by simpa using hall m hm⟩
   have hap : apartF fv gv ft gt = (asgn M (say M n), true) := by simp [apartF, hrf, hrg, hfirst, hM]
   simp (disch := omega) [he, beqF, keep_cl, trunc, -Int.natCast_pow, -Int.natCast_add]
   refine W_up M.length (fun j => [(4, .ptr 2 0), (6, .ptr 3 0), (8, .int .i64 n), (40, .vs (ints .i64 M) .no), (41, .int .i64 M.length), (42, .int .i64 j)])
    (fun j => [some (.cells [.vs (ints .i64 fv) .no, .vs (nats .u32 ft) .no]), some (.cells [.vs (ints .i64 gv) .no, .vs (nats .u32 gt) .no]), some (.cells (cnats .u32 (zeros 34))), some (.cells (cnats .u32 (asgn (M.take j) (say M n))))])
    (fun j => True) ?_ ?_
   ·simp [keep_cl, trunc, asgn_nil]
   intro j hj _
   by_cases hjl : j < M.length
   ·have hm := hm34 _ (List.getElem_mem hjl)
    have hlen : (asgn (M.take j) (say M n)).length = 34 := by simp [asgn]
    have hset := cnats_set .u32 (asgn (M.take j) (say M n)) M[j].toNat
    have hb : n / 2 ^ j < 9223372036854775808 := Nat.lt_of_le_of_lt (Nat.div_le_self _ _) (by omega)
    have hstep := asgn_step hnd (say M n) hjl hm.1
    have hsay : say M n M[j] = n.testBit j := by simp only [say]; rw [List.Nodup.idxOf_getElem hnd]
    rw [hsay] at hstep
    have hbit := toNat_bit n j
    cases hbb : n.testBit j
    ·rw [hbb] at hstep hbit
     have hs0 := hset 0 (by omega)
     have hmc : mulI .u32 4294967295 (convI .u32 0) = 0 := by decide
     simp (disch := omega) [ltT, ltF, leT, get_in, shr64, and1 hb, hbit, add1', keep_cl, trunc, hjl, hstep, leTn, hlen, hmc, hs0, -Int.natCast_pow, -Int.natCast_add, -Int.natCast_ediv, -Int.natCast_emod]
     have h3 : clL 4 ((cnats .u32 (asgn (M.take j) (say M n))).take M[j].toNat ++ V.int .u32 0 :: (cnats .u32 (asgn (M.take j) (say M n))).drop (M[j].toNat + 1)) = cnats .u32 ((asgn (M.take j) (say M n)).set M[j].toNat 0) := (congrArg (clL 4) hs0).trans (cnats_cl 4 _ _)
     exact h3
    ·rw [hbb] at hstep hbit
     have hs0 := hset 4294967295 (by omega)
     have hmc : mulI .u32 4294967295 (convI .u32 1) = 4294967295 := by decide
     simp (disch := omega) [ltT, ltF, leT, get_in, shr64, and1 hb, hbit, add1', keep_cl, trunc, hjl, hstep, leTn, hlen, hmc, hs0, -Int.natCast_pow, -Int.natCast_add, -Int.natCast_ediv, -Int.natCast_emod]
     have h3 : clL 4 ((cnats .u32 (asgn (M.take j) (say M n))).take M[j].toNat ++ V.int .u32 4294967295 :: (cnats .u32 (asgn (M.take j) (say M n))).drop (M[j].toNat + 1)) = cnats .u32 ((asgn (M.take j) (say M n)).set M[j].toNat 4294967295) := (congrArg (clL 4) hs0).trans (cnats_cl 4 _ _)
     exact h3
   ·have hne : j = M.length := by omega
    subst hne
    have hl34 : (asgn M (say M n)).length = 34 := by simp [asgn]
    simp (disch := omega) [ltF, hap, hl34, take_full hl34, drop_full hl34]
 ·have hne : n = 2 ^ M.length := by omega
  subst hne
  have hfirst : firstD fv gv ft gt = none := by
   rw [firstD, hM, List.find?_range_eq_none]
   exact fun m hm => by simpa using hall m hm
  have hap : apartF fv gv ft gt = (zeros 34, false) := by simp [apartF, hrf, hrg, hfirst]
  simp (disch := omega) [ltF, hap, -Int.natCast_pow]
end Go.Ev
/- What the functions of hurdleref15 and hurdleref01 compute. -/
namespace Go.Ev
open Go Go.RowKit
variable {G : Tbl}
set_option maxRecDepth 10000
set_option maxHeartbeats 2000000
set_option linter.unusedSimpArgs false
set_option linter.unusedVariables false
theorem mulN {a b : Nat} (h : a * b ≤ 9223372036854775807) : mulI .i64 (a : Int) (b : Int) = ((a * b : Nat) : Int) := by
 have h2 : ((a : Int) * (b : Int)) = ((a * b : Nat) : Int) := by rw [Int.natCast_mul]
 unfold mulI
 rw [h2]
 exact wrap_nat64 (by omega)
theorem rem2 {a : Nat} : remI (a : Int) 2 = ((a % 2 : Nat) : Int) := rem64 (b := 2)
end Go.Ev
/- What the functions of hurdleref15 and hurdleref01 compute: the rest. -/
namespace Go.Ev
open Go Go.RowKit
variable {G : Tbl}
set_option maxRecDepth 10000
set_option maxHeartbeats 2000000
set_option linter.unusedSimpArgs false
set_option linter.unusedVariables false
theorem wrapU64 {n : Nat} (h : n < 18446744073709551616) : IntKind.u64.wrap (n : Int) = n := by
 show ((n : Int) % 18446744073709551616) = n
 omega
theorem convU64b {b : Nat} (hb : b < 18446744073709551616) : convI .u64 (b : Int) = (b : Int) := wrapU64 hb
theorem convU32 {b : Nat} (hb : b < 4294967296) : convI .u32 (b : Int) = (b : Int) := wrap_nat32 hb
theorem quoU64 {a b : Nat} (ha : a < 18446744073709551616) : quoI .u64 (a : Int) (b : Int) = ((a / b : Nat) : Int) := by
 unfold quoI
 rw [Int.tdiv_eq_ediv_of_nonneg (by omega)]
 have h : ((a : Int) / (b : Int)) = ((a / b : Nat) : Int) := by rw [Int.natCast_ediv]
 rw [h]
 exact wrapU64 (Nat.lt_of_le_of_lt (Nat.div_le_self a b) ha)
theorem addU64 {a b : Nat} (h : a + b < 18446744073709551616) : addI .u64 (a : Int) (b : Int) = ((a + b : Nat) : Int) := by
 unfold addI; rw [← Int.natCast_add]; exact wrapU64 h
theorem mulU64 {a b : Nat} (h : a * b < 18446744073709551616) : mulI .u64 (a : Int) (b : Int) = ((a * b : Nat) : Int) := by
 unfold mulI; rw [← Int.natCast_mul]; exact wrapU64 h
end Go.Ev
/- What the functions of hurdleref01 compute; and hurdleref15's Do and Apart. -/
namespace Go.Ev
open Go Go.RowKit
variable {G : Tbl}
set_option maxRecDepth 10000
set_option maxHeartbeats 2000000
set_option linter.unusedSimpArgs false
set_option linter.unusedVariables false
theorem rem_32 {a : Nat} : remI (a : Int) 32 = ((a % 32 : Nat) : Int) := rem64 (b := 32)
theorem rem_w {a : Nat} : remI (a : Int) 4294967296 = ((a % 4294967296 : Nat) : Int) := rem64 (b := 4294967296)
theorem addU32 {a b : Nat} (h : a + b < 4294967296) : addI .u32 (a : Int) (b : Int) = ((a + b : Nat) : Int) := by
 unfold addI; rw [← Int.natCast_add]; exact wrap_nat32 h
theorem addU32_1 {a : Nat} (h : a + 1 < 4294967296) : addI .u32 (a : Int) 1 = ((a + 1 : Nat) : Int) := addU32 (b := 1) h
theorem mulU32 {a b : Nat} (h : a * b < 4294967296) : mulI .u32 (a : Int) (b : Int) = ((a * b : Nat) : Int) := by
 unfold mulI; rw [← Int.natCast_mul]; exact wrap_nat32 h
theorem mulU32_2 {b : Nat} (h : 2 * b < 4294967296) : mulI .u32 2 (b : Int) = ((2 * b : Nat) : Int) := mulU32 (a := 2) h
theorem mulU64_2 {a : Nat} (h : a * 2 < 18446744073709551616) : mulI .u64 (a : Int) 2 = ((a * 2 : Nat) : Int) := mulU64 (b := 2) h
theorem power_ok (hG : HasR1 G) (n : Nat) (hn : n < 4294967296) : FP G 125 [.int .u32 n] (.int .u64 (2 ^ (n % 32) : Nat)) := by
 refine FP_of hG.h_hurdleref01_power (Nat.le_of_ble_eq_true rfl) ?_
 simp [-Int.natCast_pow]
 refine W_up (n % 32) (fun i => [(0, .int .u32 n), (3, .int .u64 (2 ^ i : Nat)), (4, .int .u32 i)]) (fun _ => []) (fun _ => True) ?_ ?_
 ·simp [keep_cl, trunc, -Int.natCast_pow]
 intro i hi _
 by_cases hlt : i < n % 32
 ·have h1 : 2 ^ i * 2 ≤ 2 ^ 62 := by rw [← Nat.pow_succ]; exact Nat.pow_le_pow_right (by decide) (by omega)
  simp (disch := omega) [rem_32, rem2, rem_w, ltT, mulU64_2, addU32_1, keep_cl, trunc, hlt, Nat.pow_succ, -Int.natCast_pow, -Int.natCast_add, -Int.natCast_mul, -Int.natCast_emod]
 ·have hne : i = n % 32 := by omega
  subst hne
  simp (disch := omega) [rem_32, rem2, rem_w, ltF, -Int.natCast_pow, -Int.natCast_emod]
theorem bit1_ok (hG : HasR1 G) (a i : Nat) (ha : a < 4294967296) (hi : i < 32) : FP G 126 [.int .u32 a, .int .u32 i] (.int .u32 ((a.testBit i).toNat : Nat)) := by
 have h0 : 0 < 2 ^ (i % 32) := Nat.two_pow_pos _
 have he : i % 32 = i := Nat.mod_eq_of_lt hi
 have h2 := toNat_bit a i
 have h3 : (a.testBit i).toNat < 2 := by cases a.testBit i <;> simp
 refine FP_of hG.h_hurdleref01_bit (Nat.le_of_ble_eq_true rfl) ?_
 simp [-Int.natCast_pow]
 refine callP_of (power_ok hG i (by omega)) ?_
 simp (disch := omega) [convU64b, quoU64, rem_32, rem2, rem_w, eqF, he, h2, convU32, -Int.natCast_pow, -Int.natCast_ediv, -Int.natCast_emod]
theorem bits_ok (hG : HasR1 G) (a b s0 s1 s2 s3 : Nat) (ha : a < 4294967296) (hb : b < 4294967296) (h0 : s0 ≤ 1) (h1 : s1 ≤ 1) (h2 : s2 ≤ 1) (h3 : s3 ≤ 1) :
  FP G 127 [.int .u32 a, .int .u32 b, .vs (nats .u32 [s0, s1, s2, s3]) .no]
   (.int .u32 (wordOf (fun i => ([s0, s1, s2, s3][2 * (a.testBit i).toNat + (b.testBit i).toNat]?.getD 0) == 1) 32 : Nat)) := by
 refine FP_of hG.h_hurdleref01_bits (Nat.le_of_ble_eq_true rfl) ?_
 simp
 refine W_up 32 (fun i => [(0, .int .u32 a), (1, .int .u32 b), (2, .vs (nats .u32 [s0, s1, s2, s3]) .no), (7, .int .u32 (wordOf (fun i => ([s0, s1, s2, s3][2 * (a.testBit i).toNat + (b.testBit i).toNat]?.getD 0) == 1) i : Nat)), (8, .int .u32 i)])
  (fun _ => []) (fun _ => True) ?_ ?_
 ·simp [keep_cl, trunc, wordOf]
 intro i hi _
 by_cases hlt : i < 32
 case neg =>
  have hne : i = 32 := by omega
  subst hne
  simp
 have hx : (a.testBit i).toNat ≤ 1 := by cases a.testBit i <;> simp
 have hy : (b.testBit i).toNat ≤ 1 := by cases b.testBit i <;> simp
 simp (disch := omega) [ltT, -Int.natCast_add]
 refine callP_of (bit1_ok hG a i ha hlt) ?_
 simp
 refine callP_of (bit1_ok hG b i hb hlt) ?_
 generalize hk : 2 * (a.testBit i).toNat + (b.testBit i).toNat = k
 have hkl : k < [s0, s1, s2, s3].length := by simp; omega
 have hs1 : [s0, s1, s2, s3][k] ≤ 1 := by
  have : [s0, s1, s2, s3][k] ∈ [s0, s1, s2, s3] := List.getElem_mem hkl
  simp only [List.mem_cons, List.not_mem_nil, or_false] at this
  omega
 generalize hsay : [s0, s1, s2, s3] = says at *
 have hu := wordOf_lt (fun i => (says[2 * (a.testBit i).toNat + (b.testBit i).toNat]?.getD 0) == 1) i
 have hp : 2 ^ i ≤ 2 ^ 31 := Nat.pow_le_pow_right (by decide) (by omega)
 have he : i % 32 = i := Nat.mod_eq_of_lt hlt
 have hm : says[k] * 2 ^ i ≤ 1 * 2 ^ i := Nat.mul_le_mul_right _ hs1
 have hstep : wordOf (fun i => (says[2 * (a.testBit i).toNat + (b.testBit i).toNat]?.getD 0) == 1) (i + 1) = wordOf (fun i => (says[2 * (a.testBit i).toNat + (b.testBit i).toNat]?.getD 0) == 1) i + says[k] * 2 ^ i := by
  rw [wordOf]
  simp only [hk, List.getElem?_eq_getElem hkl, Option.getD_some]
  rcases Nat.le_one_iff_eq_zero_or_eq_one.1 hs1 with e | e <;> simp [e]
 simp (disch := omega) [mulU32_2, addU32, hk, conv64, leT, get_in, -Int.natCast_add, -Int.natCast_mul]
 refine callP_of (power_ok hG i (by omega)) ?_
 simp (disch := omega) [he, convU32, mulU32, addU32, addU32_1, keep_cl, trunc, hlt, hstep, -Int.natCast_add, -Int.natCast_mul, -Int.natCast_pow]
theorem bits_word {f : Nat → Bool} {w : Nat} (hw : w < 2 ^ 32) (h : ∀ i, i < 32 → f i = w.testBit i) : wordOf f 32 = w := by
 rw [wordOf_ext h, wordOf_self hw]
theorem DoR_ok (hG : HasR1 G) (kind : Int) (a b : Nat) (ha : a < 4294967296) (hb : b < 4294967296) :
  FP G 122 [.int .i64 kind, .int .u32 a, .int .u32 b] (.tup [.int .u32 ((doW kind a b).1 : Nat), .bool (doW kind a b).2]) := by
 refine FP_of hG.h_hurdleref01_Do (Nat.le_of_ble_eq_true rfl) ?_
 have hp : 2 ^ (b % 32) ≤ 2 ^ 31 := Nat.pow_le_pow_right (by decide) (by omega)
 have hp0 : 0 < 2 ^ (b % 32) := Nat.two_pow_pos _
 simp (disch := omega) [convU64b]
 by_cases h : kind = 4
 ·subst h; simp (disch := omega) [doW, addU64, rem_32, rem2, rem_w, convU32, -Int.natCast_add, -Int.natCast_emod]
 by_cases h : kind = 20
 ·subst h
  have h1 : addI .u64 (a : Int) 4294967296 = ((a + 4294967296 : Nat) : Int) := addU64 (b := 4294967296) (by omega)
  have h2 : subI .u64 ((a + 4294967296 : Nat) : Int) (b : Int) = ((a + 4294967296 - b : Nat) : Int) := by
   unfold subI
   rw [← Int.natCast_sub (by omega)]
   exact wrapU64 (by omega)
  simp (disch := omega) [doW, h1, h2, rem_32, rem2, rem_w, convU32, -Int.natCast_add, -Int.natCast_emod]
 by_cases h : kind = 36
 ·subst h
  have h1 : a * b < 18446744073709551616 := by
   have : a * b ≤ 4294967295 * 4294967295 := Nat.mul_le_mul (by omega) (by omega)
   omega
  simp (disch := omega) [doW, mulU64, rem_32, rem2, rem_w, convU32, -Int.natCast_mul, -Int.natCast_emod]
 by_cases h : kind = 52
 ·subst h
  by_cases hz : b = 0
  ·subst hz; simp [doW]
  ·have h1 : a / b < 4294967296 := Nat.lt_of_le_of_lt (Nat.div_le_self _ _) ha
   simp (disch := omega) [doW, hz, beqF, quoU64, convU32, -Int.natCast_ediv]
 by_cases h : kind = 68
 ·subst h
  simp
  refine callP_of (by simpa [nats] using bits_ok hG a b 0 1 1 1 ha hb (by decide) (by decide) (by decide) (by decide)) ?_
  have : wordOf (fun i => ([0, 1, 1, 1][2 * (a.testBit i).toNat + (b.testBit i).toNat]?.getD 0) == 1) 32 = a ||| b := bits_word (Nat.or_lt_two_pow ha hb) fun i hi => by
   rw [Nat.testBit_or]; cases a.testBit i <;> cases b.testBit i <;> rfl
  simp [doW, this]
 by_cases h : kind = 84
 ·subst h
  simp
  refine callP_of (by simpa [nats] using bits_ok hG a b 0 0 0 1 ha hb (by decide) (by decide) (by decide) (by decide)) ?_
  have : wordOf (fun i => ([0, 0, 0, 1][2 * (a.testBit i).toNat + (b.testBit i).toNat]?.getD 0) == 1) 32 = a &&& b := bits_word (Nat.and_lt_two_pow _ hb) fun i hi => by
   rw [Nat.testBit_and]; cases a.testBit i <;> cases b.testBit i <;> rfl
  simp [doW, this]
 by_cases h : kind = 100
 ·subst h
  simp
  refine callP_of (power_ok hG b hb) ?_
  have h1 : a * 2 ^ (b % 32) < 18446744073709551616 := by
   have : a * 2 ^ (b % 32) ≤ 4294967295 * 2 ^ 31 := Nat.mul_le_mul (by omega) hp
   omega
  simp (disch := omega) [doW, mulU64, rem_32, rem2, rem_w, convU32, -Int.natCast_mul, -Int.natCast_emod, -Int.natCast_pow]
 by_cases h : kind = 116
 ·subst h
  simp
  refine callP_of (power_ok hG b hb) ?_
  have h1 : a / 2 ^ (b % 32) < 4294967296 := Nat.lt_of_le_of_lt (Nat.div_le_self _ _) ha
  simp (disch := omega) [doW, quoU64, convU32, eqF, -Int.natCast_ediv, -Int.natCast_pow]
 by_cases h : kind = 164
 ·subst h
  simp
  refine callP_of (by simpa [nats] using bits_ok hG a b 0 1 1 0 ha hb (by decide) (by decide) (by decide) (by decide)) ?_
  have : wordOf (fun i => ([0, 1, 1, 0][2 * (a.testBit i).toNat + (b.testBit i).toNat]?.getD 0) == 1) 32 = a ^^^ b := bits_word (Nat.xor_lt_two_pow ha hb) fun i hi => by
   rw [Nat.testBit_xor]; cases a.testBit i <;> cases b.testBit i <;> rfl
  simp [doW, this]
 simp (disch := omega) [doW, beqF, *]
theorem NegR_ok [HasR1n G] (a : Nat) (ha : a < 4294967296) : FP G 173 [.int .u32 a] (.int .u32 (negW a : Nat)) := by
 refine FP_of HasR1n.h_hurdleref01_Neg (Nat.le_of_ble_eq_true rfl) ?_
 have c1 := convU64b (b := a) (by omega)
 have s1 : subI .u64 4294967296 (a : Int) = ((4294967296 - a : Nat) : Int) := by unfold subI; rw [show (4294967296 : Int) - (a : Int) = ((4294967296 - a : Nat) : Int) by omega]; exact IntWalk.u64_in _ ⟨by omega, by omega⟩
 have r1 : remI ((4294967296 - a : Nat) : Int) 4294967296 = ((negW a : Nat) : Int) := rem64 (b := 4294967296)
 have c2 : convI .u32 ((negW a : Nat) : Int) = ((negW a : Nat) : Int) := by unfold convI; exact wrap_nat32 (Nat.mod_lt _ (by decide))
 simp [c1, s1, r1, c2]
end Go.Ev
