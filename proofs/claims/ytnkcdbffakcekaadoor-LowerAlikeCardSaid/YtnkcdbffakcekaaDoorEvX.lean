/- Runs of simplified code that can be computed. -/
import Derived.Test.YtnkcdbffakcekaaDoorEvNW
set_option linter.unusedVariables false
set_option linter.unusedSimpArgs false
namespace Go.Ev
open Go Go.RowKit
mutual
/-- Alike. -/
def veq : V → V → Bool
 | .undef, .undef => true
 | .skp, .skp => true
 | .any, .any => true
 | .int k a, .int k' b => decide (k = k') && a == b
 | .bool a, .bool b => a == b
 | .str a, .str b => a == b
 | .nilp, .nilp => true
 | .ptr a b, .ptr c d => a == c && b == d
 | .cptr a, .cptr b => veqL a b
 | .vs a t, .vs b u => veqLL a b && decide (t = u)
 | .rs a b c d, .rs a' b' c' d' => a == a' && b == b' && c == c' && d == d'
 | .fn f c, .fn g d => f == g && veqL c d
 | .nilf, .nilf => true
 | .agg a, .agg b => veqL a b
 | .tup a, .tup b => veqL a b
 | .mp a, .mp b => a == b
 | .nilm, .nilm => true
 | .yld a, .yld b => a == b
 | .gs a n, .gs b m => a == b && n == m
 | _, _ => false
def veqL : List V → List V → Bool
 | [], [] => true
 | a :: as, b :: bs => veq a b && veqL as bs
 | _, _ => false
def veqLL : List (List V) → List (List V) → Bool
 | [], [] => true
 | a :: as, b :: bs => veqL a b && veqLL as bs
 | _, _ => false
end
mutual
theorem veq_eq : ∀ {a b : V}, veq a b = true → a = b
 | .undef, b, h => by cases b <;> simp [veq] at h; rfl
 | .skp, b, h => by cases b <;> simp [veq] at h; rfl
 | .any, b, h => by cases b <;> simp [veq] at h; rfl
 | .int _ _, b, h => by cases b <;> simp [veq] at h; rw [h.1, h.2]
 | .bool _, b, h => by cases b <;> simp [veq] at h; rw [h]
 | .str _, b, h => by cases b <;> simp [veq] at h; rw [h]
 | .nilp, b, h => by cases b <;> simp [veq] at h; rfl
 | .ptr _ _, b, h => by cases b <;> simp [veq] at h; rw [h.1, h.2]
 | .cptr _, b, h => by cases b <;> simp [veq] at h; rw [veqL_eq h]
 | .vs _ _, b, h => by cases b <;> simp [veq] at h; rw [veqLL_eq h.1, h.2]
 | .rs _ _ _ _, b, h => by cases b <;> simp [veq] at h; rw [h.1.1.1, h.1.1.2, h.1.2, h.2]
 | .fn _ _, b, h => by cases b <;> simp [veq] at h; rw [h.1, veqL_eq h.2]
 | .nilf, b, h => by cases b <;> simp [veq] at h; rfl
 | .agg _, b, h => by cases b <;> simp [veq] at h; rw [veqL_eq h]
 | .tup _, b, h => by cases b <;> simp [veq] at h; rw [veqL_eq h]
 | .mp _, b, h => by cases b <;> simp [veq] at h; rw [h]
 | .nilm, b, h => by cases b <;> simp [veq] at h; rfl
 | .yld _, b, h => by cases b <;> simp [veq] at h; rw [h]
 | .gs _ _, b, h => by cases b <;> simp [veq] at h; rw [h.1, h.2]
theorem veqL_eq : ∀ {a b : List V}, veqL a b = true → a = b
 | [], b, h => by cases b <;> simp [veqL] at h; rfl
 | _ :: _, b, h => by cases b <;> simp [veqL] at h; rw [veq_eq h.1, veqL_eq h.2]
theorem veqLL_eq : ∀ {a b : List (List V)}, veqLL a b = true → a = b
 | [], b, h => by cases b <;> simp [veqLL] at h; rfl
 | _ :: _, b, h => by cases b <;> simp [veqLL] at h; rw [veqL_eq h.1, veqLL_eq h.2]
end
def peq : List (V × V) → List (V × V) → Bool
 | [], [] => true
 | a :: as, b :: bs => veq a.1 b.1 && veq a.2 b.2 && peq as bs
 | _, _ => false
theorem peq_eq : ∀ {a b : List (V × V)}, peq a b = true → a = b
 | [], b, h => by cases b <;> simp [peq] at h; rfl
 | (a1, a2) :: as, b, h => by
  cases b with
  | nil => simp [peq] at h
  | cons b bs =>
   obtain ⟨b1, b2⟩ := b
   simp [peq] at h
   rw [veq_eq h.1.1, veq_eq h.1.2, peq_eq h.2]
def beqB : Option Blk → Option Blk → Bool
 | none, none => true
 | some (.cells a), some (.cells b) => veqL a b
 | some (.zone a), some (.zone b) => a == b
 | some (.froz a), some (.froz b) => veqL a b
 | some (.map a), some (.map b) => peq a b
 | some (.siter a i), some (.siter b j) => a == b && i == j
 | _, _ => false
theorem beqB_eq {a b : Option Blk} (h : beqB a b = true) : a = b := by
 cases a with
 | none => cases b <;> simp [beqB] at h; rfl
 | some a =>
  cases b with
  | none => cases a <;> simp [beqB] at h
  | some b =>
   cases a <;> cases b <;> simp [beqB] at h
   ·rw [veqL_eq h]
   ·rw [h]
   ·rw [veqL_eq h]
   ·rw [peq_eq h]
   ·rw [h.1, h.2]
def heqB : Heap → Heap → Bool
 | [], [] => true
 | a :: as, b :: bs => beqB a b && heqB as bs
 | _, _ => false
theorem heqB_eq : ∀ {a b : Heap}, heqB a b = true → a = b
 | [], b, h => by cases b <;> simp [heqB] at h; rfl
 | _ :: _, b, h => by cases b <;> simp [heqB] at h; rw [beqB_eq h.1, heqB_eq h.2]
inductive In where
 | F (f : Nat) (args : List V) (H : Heap)
 | S (base : Nat) (o : SOper) (e : Env) (H : Heap)
 | O (base : Nat) (os : List SOper) (e : Env) (H : Heap)
 | C (c : SCode) (e : Env) (H : Heap)
 | L (n : Nat) (l : List Nat) (c : SCode) (e : Env) (H : Heap)
inductive Out where
 | F (r : V) (H : Heap)
 | E (e : Env) (H : Heap)
 | C (x : Ex) (e : Env) (H : Heap)
def IsRun (G : Tbl) : In → Out → Prop
 | .F f args H, .F r H' => Big G (.F f args H r H')
 | .S base o e H, .E e' H' => Big G (.S base o e H e' H')
 | .O base os e H, .E e' H' => Big G (.O base os e H e' H')
 | .C c e H, .C x e' H' => Big G (.C c e H x e' H')
 | .L n l c e H, .C x e' H' => Big G (.L n l c e H x e' H')
 | _, _ => False
def beqO : Option (Option Blk) → Option (Option Blk) → Bool
 | some a, some b => beqB a b
 | none, none => true
 | _, _ => false
def leavesB (e : Env) (rs : List Nat) (H H1 : Heap) : Bool := rs.all fun r => match (e r).ptrId? with | some id => beqO H1[id]? H[id]? | none => true
theorem leavesB_ok {e : Env} {rs : List Nat} {H H1 : Heap} (h : leavesB e rs H H1 = true) : Leaves e rs H H1 := by
 intro r hr id hid
 have := List.all_eq_true.1 h r hr
 simp only [hid] at this
 unfold beqO at this
 split at this
 ·rename_i a b h1 h2; rw [h1, h2, beqB_eq this]
 ·rename_i h1 h2; rw [h1, h2]
 ·cases this
def keqB (n : Nat) : List (Nat × V) → Bool
 | [] => true
 | (_, v) :: l => veq (v.cl n) v && keqB n l
theorem keqB_ok (n : Nat) : ∀ {l : List (Nat × V)}, keqB n l = true → l.map (fun p => (p.1, p.2.cl n)) = l
 | [], _ => rfl
 | (i, v) :: l, h => by
  simp only [keqB, Bool.and_eq_true] at h
  simp only [List.map_cons, veq_eq h.1, keqB_ok n h.2]
def clB (n : Nat) : Option Blk → Bool
 | some (.loop e _ _ _ .ready) => keqB n e
 | some (.loop e _ _ _ .busy) => keqB n e
 | b => beqB (b.map (Blk.cl n)) b
theorem clB_ok (n : Nat) {b : Option Blk} (h : clB n b = true) : b.map (Blk.cl n) = b := by
 unfold clB at h
 split at h
 ·simp only [Option.map_some, Blk.cl, keqB_ok n h]
 ·simp only [Option.map_some, Blk.cl, keqB_ok n h]
 ·exact beqB_eq h
def elderB (base : Nat) (args : List V) (H H' : Heap) : Bool := args.all (fun v => veq (v.cl base) v) && H.all (clB base) && heqB (H'.drop base) (H.drop base)
theorem elderB_ok {base : Nat} {args : List V} {H H' : Heap} (h : elderB base args H H' = true) : Elder base args H H' := by
 simp only [elderB, Bool.and_eq_true, List.all_eq_true] at h
 refine ⟨fun v hv => veq_eq (h.1.1 v hv), ?_, heqB_eq h.2⟩
 conv => rhs; rw [← List.map_id H]
 exact List.map_congr_left fun b hb => clB_ok base (h.1.2 b hb)
def strInt : List (V × V) → Option (List (List UInt8 × Int))
 | [] => some []
 | (.str s, .int .u32 n) :: l => (strInt l).map ((s, n) :: ·)
 | _ => none
def natX : Nat → List V → Heap → Option V
 | 0, [.mp id, .int .u32 n], H => match H[id]? with
  | some (some (.map es)) => match strInt es with
   | some l => if (l.map (·.2)).Nodup then some (.str (((l.find? fun p => p.2 == n).map (·.1)).getD [])) else none
   | none => none
  | _ => none
 | 0, [.nilm, .int .u32 _], _ => some (.str [])
 | _, _, _ => none
theorem strInt_ok : ∀ {es : List (V × V)} {l : List (List UInt8 × Int)}, strInt es = some l → es = l.map fun p => (V.str p.1, V.int .u32 p.2)
 | [], l, h => by simp only [strInt, Option.some.injEq] at h; subst h; rfl
 | (k, v) :: es, l, h => by
  unfold strInt at h
  split at h
  ·rename_i he; cases he
  ·rename_i s n es' he
   cases he
   rw [Option.map_eq_some_iff] at h
   obtain ⟨l', h1, rfl⟩ := h
   rw [strInt_ok h1]; rfl
  ·cases h
theorem natX_ok {k : Nat} {args : List V} {H : Heap} {r : V} (h : natX k args H = some r) : natR k args H r H := by
 unfold natX at h
 split at h
 ·split at h
  ·rename_i hb
   split at h
   ·rename_i l hl
    split at h
    ·rename_i hn
     cases h
     rw [strInt_ok hl] at hb
     exact ⟨rfl, l, hb, hn, rfl⟩
    ·cases h
   ·cases h
  ·cases h
 ·cases h; exact ⟨rfl, rfl⟩
 ·cases h
def natF (fn : SFn) (args : List V) (H : Heap) : Option Out := match fn.body with
 | .nat k => match natX k args H with
  | some r => some (.F r H)
  | none => none
 | _ => none
def execS (G : Tbl) (ex : In → Option Out) : In → Option Out
 | .F f args H => match G f with
  | some fn => if args.length ≤ fn.nt then
    match ex (.C fn.body (envOf args) H) with
    | some (.C x e' H') => match x with
     | .exit _ => none
     | _ => match evRess e' H' fn.res with
      | some vs => some (.F (resOf vs) H')
      | none => none
    | _ => none
   else natF fn args H
  | none => none
 | .S base o e H => match wanted e o with
  | some true => match o.op with
   | .pcall f xs => match ex (.F f (outL (xs.map (X.ev e))) []) with
    | some (.F r H1) => some (.E (e.put o.dst (frz H1 r).out) H)
    | _ => none
   | .scall f xs => match ex (.F f (xs.map (X.ev e)) H) with
    | some (.F r H1) => some (.E (e.put o.dst (r.cl H.length)) (trunc H.length H1))
    | _ => none
   | .scallA rs f xs => match ex (.F f (xs.map (X.ev e)) H) with
    | some (.F r H1) => if leavesB e rs H (trunc H.length H1) = true then some (.E (e.put o.dst (r.cl H.length)) (trunc H.length H1)) else none
    | _ => none
   | .scallE f xs => match ex (.F f (xs.map (X.ev e)) H) with
    | some (.F r H1) => if elderB base (xs.map (X.ev e)) H (trunc H.length H1) = true then some (.E (e.put o.dst (r.cl H.length)) (trunc H.length H1)) else none
    | _ => none
   | .kcall true _ _ => none
   | .kcall false f xs => match ex (.F f (xs.map (X.ev e)) H) with
    | some (.F r H1) => some (.E (e.put o.dst r) H1)
    | _ => none
   | .vcall ro fx xs => match fx.ev e with
    | .fn f cap => match ex (.F f (xs.map (X.ev e) ++ cap) H) with
     | some (.F r H1) => if !ro || heqB (trunc H.length H1) H then some (.E (e.put o.dst (r.cl H.length)) (trunc H.length H1)) else none
     | _ => none
    | .yld id => match ro with
     | true => none
     | false => match H[id]? with
      | some (some (.loop e0 ps as bo .ready)) => if xs.length = ps.length then
        match ex (.C as (putP ps (xs.map (X.ev e)) (mkE e0)) H) with
        | some (.C .nx e1 H1) => match H1[id]? with
         | some (some (.loop f0 fps fas fbo .ready)) => match ex (.C bo e1 (H1.set id (some (.loop f0 fps fas fbo .busy)))) with
          | some (.C x e2 H2) => match H2[id]? with
           | some (some (.loop g0 gps gas gbo .busy)) => some (.E (e.put o.dst (.bool (decide (x = .nx)))) (trunc H.length (H2.set id (some (.loop g0 gps gas gbo (if x = .nx then .ready else .done x))))))
           | _ => none
          | _ => none
         | _ => none
        | _ => none
       else none
      | _ => none
    | _ => none
   | op => match ev1 base e H op with
    | some (v, H1) => some (.E (e.put o.dst v) H1)
    | none => none
  | some false => some (.E (e.put o.dst .skp) H)
  | none => none
 | .O base os e H => match os with
  | [] => some (.E e H)
  | o :: os => match ex (.S base o e H) with
   | some (.E e1 H1) => ex (.O base os e1 H1)
   | _ => none
 | .C c e H => match c with
  | .skip => some (.C .nx e H)
  | .region m ops => match ex (.O H.length ops e (H ++ List.replicate m none)) with
   | some (.E e1 H1) => some (.C .nx e1 H1)
   | _ => none
  | .seq a b => match ex (.C a e H) with
   | some (.C x e1 H1) => match x with
    | .nx => ex (.C b e1 H1)
    | x => some (.C x e1 H1)
   | _ => none
  | .cond c a b => match c.ev e with
   | .bool t => match t with
    | true => ex (.C a e H)
    | false => ex (.C b e H)
   | _ => none
  | .block id c => match ex (.C c e H) with
   | some (.C x e1 H1) => some (.C (if x = .exit id then .nx else x) e1 H1)
   | _ => none
  | .loop l c => ex (.L H.length l c e H)
  | .exit id => some (.C (.exit id) e H)
  | .ret => some (.C .ret e H)
  | .keep l => some (.C .nx (keepE l e) H)
  | .give t off => match giveIt e H t off with
   | some (e1, H1) => some (.C .nx e1 H1)
   | none => none
  | .freeze t => match frzIt e H t with
   | some (e1, H1) => some (.C .nx e1 H1)
   | none => none
  | .nat _ => none
  | .rangeF g l ps as bo => match g.ev e with
   | .fn f cap => match ex (.F f (.yld H.length :: cap) (H ++ [some (.loop (look e l) ps as bo .ready)])) with
    | some (.F _ H1) => match H1[H.length]? with
     | some (some (.loop _ _ _ _ .ready)) => some (.C .nx e (trunc H.length H1))
     | some (some (.loop _ _ _ _ (.done x))) => match x with
      | .nx => none
      | x => some (.C x e (trunc H.length H1))
     | _ => none
    | _ => none
   | _ => none
 | .L n l c e H => match ex (.C c ((keepE l e).cl n) (trunc n H)) with
  | some (.C x e1 H1) => match x with
   | .nx => ex (.L n l c e1 H1)
   | x => some (.C x e1 H1)
  | _ => none
def exec (G : Tbl) : Nat → In → Option Out
 | 0, _ => none
 | k + 1, i => execS G (exec G k) i
theorem execS_sound {G : Tbl} {ex : In → Option Out} (hx : ∀ i o, ex i = some o → IsRun G i o) : ∀ i o, execS G ex i = some o → IsRun G i o := by
 intro i o h
 cases i with
 | F f args H =>
  simp only [execS] at h
  split at h
  case h_2 => cases h
  rename_i fn hf
  split at h
  case isFalse =>
   unfold natF at h
   split at h
   ·rename_i k hk
    split at h
    ·rename_i r hr
     cases h
     exact Big.nat hf hk (natX_ok hr)
    ·cases h
   ·cases h
  rename_i hl
  split at h
  case h_2 => cases h
  rename_i x e' H' hb
  have hb := hx _ _ hb
  simp only [IsRun] at hb
  split at h
  ·cases h
  rename_i hne
  split at h
  case h_2 => cases h
  rename_i vs hvs
  cases h
  refine Big.fn hf hl hb ?_ hvs
  cases x with
  | nx => exact .inl rfl
  | ret => exact .inr rfl
  | exit k => exact absurd rfl (hne k)
 | S base o e H =>
  simp only [execS] at h
  split at h
  case h_3 => cases h
  ·rename_i hw
   split at h
   ·rename_i f xs hop
    split at h
    case h_2 => cases h
    rename_i r H1 hb
    cases h
    exact Big.pcall hw hop (hx _ _ hb)
   ·rename_i f xs hop
    split at h
    case h_2 => cases h
    rename_i r H1 hb
    cases h
    exact Big.scall hw hop (hx _ _ hb)
   ·rename_i rs f xs hop
    split at h
    case h_2 => cases h
    rename_i r H1 hb
    split at h
    case isFalse => cases h
    rename_i hlv
    cases h
    exact Big.scallA hw hop (hx _ _ hb) (leavesB_ok hlv)
   ·rename_i f xs hop
    split at h
    case h_2 => cases h
    rename_i r H1 hb
    split at h
    case isFalse => cases h
    rename_i hlv
    cases h
    exact Big.scallE hw hop (hx _ _ hb) (elderB_ok hlv)
   ·cases h
   ·rename_i f xs hop
    split at h
    case h_2 => cases h
    rename_i r H1 hb
    cases h
    exact Big.kcall hw hop (hx _ _ hb) (fun h => by cases h)
   ·rename_i ro fx xs hop
    split at h
    case h_3 => cases h
    ·rename_i f cap hfx
     split at h
     case h_2 => cases h
     rename_i r H1 hb
     split at h
     case isFalse => cases h
     rename_i hro
     cases h
     exact Big.vcall hw hop hfx (hx _ _ hb) (fun h => by
      subst h
      simp only [Bool.not_true, Bool.false_or] at hro
      exact heqB_eq hro)
    ·rename_i id hfx
     split at h
     ·cases h
     split at h
     case h_2 => cases h
     rename_i hb
     split at h
     case isFalse => cases h
     rename_i hl
     split at h
     case h_2 => cases h
     rename_i ha
     split at h
     case h_2 => cases h
     rename_i hb1
     split at h
     case h_2 => cases h
     rename_i hbo
     split at h
     case h_2 => cases h
     rename_i hb2
     cases h
     exact Big.ycall hw hop hfx hb hl (hx _ _ ha) hb1 (hx _ _ hbo) hb2
   ·split at h
    case h_2 => cases h
    rename_i v H1 hv
    cases h
    exact Big.ev hw hv
  ·rename_i hw
   cases h
   exact Big.skip hw
 | O base os e H =>
  simp only [execS] at h
  split at h
  ·cases h; exact Big.nil
  ·split at h
   case h_2 => cases h
   rename_i e1 H1 hb
   have h2 := hx _ _ h
   cases o <;> simp only [IsRun] at h2
   exact Big.cons (hx _ _ hb) h2
 | C c e H =>
  cases c with
  | skip => simp only [execS, Option.some.injEq] at h; subst h; exact Big.cskip
  | nat k => simp [execS] at h
  | region m ops =>
   simp only [execS] at h
   split at h
   case h_2 => cases h
   rename_i hb; cases h; exact Big.region (hx _ _ hb)
  | seq a b =>
   simp only [execS] at h
   split at h
   case h_2 => cases h
   rename_i x e1 H1 hb
   split at h
   ·have h2 := hx _ _ h
    cases o <;> simp only [IsRun] at h2
    exact Big.seqN (hx _ _ hb) h2
   ·rename_i hne
    cases h
    exact Big.seqX (hx _ _ hb) (fun h => hne h)
  | cond c a b =>
   simp only [execS] at h
   split at h
   case h_2 => cases h
   rename_i t ht
   split at h
   ·have h2 := hx _ _ h
    cases o <;> simp only [IsRun] at h2
    exact Big.cond ht h2
   ·have h2 := hx _ _ h
    cases o <;> simp only [IsRun] at h2
    exact Big.cond ht h2
  | block id c =>
   simp only [execS] at h
   split at h
   case h_2 => cases h
   rename_i hb; cases h; exact Big.block (hx _ _ hb)
  | loop l c =>
   simp only [execS] at h
   have h2 := hx _ _ h
   cases o <;> simp only [IsRun] at h2
   exact Big.loop h2
  | exit id => simp only [execS, Option.some.injEq] at h; subst h; exact Big.exit
  | ret => simp only [execS, Option.some.injEq] at h; subst h; exact Big.ret
  | keep l => simp only [execS, Option.some.injEq] at h; subst h; exact Big.keep
  | give t off =>
   simp only [execS] at h
   split at h
   case h_2 => cases h
   rename_i hb; cases h; exact Big.give hb
  | freeze t =>
   simp only [execS] at h
   split at h
   case h_2 => cases h
   rename_i hb; cases h; exact Big.freeze hb
  | rangeF g l ps as bo =>
   simp only [execS] at h
   split at h
   case h_2 => cases h
   rename_i f cap hg
   split at h
   case h_2 => cases h
   rename_i hf
   split at h
   case h_3 => cases h
   ·rename_i hb
    cases h
    exact Big.rangeF hg (hx _ _ hf) hb (.inl ⟨rfl, rfl⟩)
   ·rename_i hb
    split at h
    ·cases h
    ·rename_i hne
     cases h
     exact Big.rangeF hg (hx _ _ hf) hb (.inr ⟨rfl, fun h => hne h⟩)
 | L n l c e H =>
  simp only [execS] at h
  split at h
  case h_2 => cases h
  rename_i x e1 H1 hb
  split at h
  ·have h2 := hx _ _ h
   cases o <;> simp only [IsRun] at h2
   exact Big.round (hx _ _ hb) h2
  ·rename_i hne
   cases h
   exact Big.last (hx _ _ hb) (fun h => hne h)
theorem exec_sound {G : Tbl} : ∀ (k : Nat) (i : In) (o : Out), exec G k i = some o → IsRun G i o
 | 0, _, _, h => by simp [exec] at h
 | k + 1, i, o, h => execS_sound (exec_sound k) i o h
def isBoolRun (G : Tbl) (k f : Nat) (args : List V) (b : Bool) : Bool :=
 match exec G k (.F f args []) with
 | some (.F (.bool c) _) => c == b
 | _ => false
theorem FP_run {G : Tbl} {k f : Nat} {args : List V} {b : Bool} (h : isBoolRun G k f args b = true) : FP G f args (.bool b) := by
 unfold isBoolRun at h
 split at h
 ·rename_i c H' hr
  simp only [beq_iff_eq] at h
  subst h
  exact ⟨_, _, exec_sound k _ _ hr, rfl⟩
 ·cases h
end Go.Ev
