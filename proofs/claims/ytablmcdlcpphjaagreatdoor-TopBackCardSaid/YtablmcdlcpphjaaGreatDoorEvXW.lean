/- Runs of simplified code that can be computed. -/
import Derived.Test.YtablmcdlcpphjaaGreatDoorEvNW
import Derived.Test.YtablmcdlcpphjaaGreatDoorEvInsCW
import Derived.Test.YtablmcdlcpphjaaGreatDoorEvTW
set_option linter.unusedVariables false
set_option linter.unusedSimpArgs false
namespace Go.Ev
open Go Go.RowKit
mutual
/-- Alike. -/
def veq : V → V → Bool
 | .undef, .undef => true
 | .skp, .skp => true
 | .any, .any => true
 | .int k a, .int k' b => decide (k = k') && a == b
 | .bool a, .bool b => a == b
 | .str a, .str b => a == b
 | .nilp, .nilp => true
 | .ptr a b, .ptr c d => a == c && b == d
 | .cptr a, .cptr b => veqL a b
 | .vs a t, .vs b u => veqLL a b && decide (t = u)
 | .rs a b c d, .rs a' b' c' d' => a == a' && b == b' && c == c' && d == d'
 | .fn f c, .fn g d => f == g && veqL c d
 | .nilf, .nilf => true
 | .agg a, .agg b => veqL a b
 | .tup a, .tup b => veqL a b
 | .mp a, .mp b => a == b
 | .nilm, .nilm => true
 | .yld a, .yld b => a == b
 | .gs a n, .gs b m => a == b && n == m
 | _, _ => false
def veqL : List V → List V → Bool
 | [], [] => true
 | a :: as, b :: bs => veq a b && veqL as bs
 | _, _ => false
def veqLL : List (List V) → List (List V) → Bool
 | [], [] => true
 | a :: as, b :: bs => veqL a b && veqLL as bs
 | _, _ => false
end
mutual
theorem veq_eq : ∀ {a b : V}, veq a b = true → a = b
 | .undef, b, h => by cases b <;> simp [veq] at h; rfl
 | .skp, b, h => by cases b <;> simp [veq] at h; rfl
 | .any, b, h => by cases b <;> simp [veq] at h; rfl
 | .int _ _, b, h => by cases b <;> simp [veq] at h; rw [h.1, h.2]
 | .bool _, b, h => by cases b <;> simp [veq] at h; rw [h]
 | .str _, b, h => by cases b <;> simp [veq] at h; rw [h]
 | .nilp, b, h => by cases b <;> simp [veq] at h; rfl
 | .ptr _ _, b, h => by cases b <;> simp [veq] at h; rw [h.1, h.2]
 | .cptr _, b, h => by cases b <;> simp [veq] at h; rw [veqL_eq h]
 | .vs _ _, b, h => by cases b <;> simp [veq] at h; rw [veqLL_eq h.1, h.2]
 | .rs _ _ _ _, b, h => by cases b <;> simp [veq] at h; rw [h.1.1.1, h.1.1.2, h.1.2, h.2]
 | .fn _ _, b, h => by cases b <;> simp [veq] at h; rw [h.1, veqL_eq h.2]
 | .nilf, b, h => by cases b <;> simp [veq] at h; rfl
 | .agg _, b, h => by cases b <;> simp [veq] at h; rw [veqL_eq h]
 | .tup _, b, h => by cases b <;> simp [veq] at h; rw [veqL_eq h]
 | .mp _, b, h => by cases b <;> simp [veq] at h; rw [h]
 | .nilm, b, h => by cases b <;> simp [veq] at h; rfl
 | .yld _, b, h => by cases b <;> simp [veq] at h; rw [h]
 | .gs _ _, b, h => by cases b <;> simp [veq] at h; rw [h.1, h.2]
theorem veqL_eq : ∀ {a b : List V}, veqL a b = true → a = b
 | [], b, h => by cases b <;> simp [veqL] at h; rfl
 | _ :: _, b, h => by cases b <;> simp [veqL] at h; rw [veq_eq h.1, veqL_eq h.2]
theorem veqLL_eq : ∀ {a b : List (List V)}, veqLL a b = true → a = b
 | [], b, h => by cases b <;> simp [veqLL] at h; rfl
 | _ :: _, b, h => by cases b <;> simp [veqLL] at h; rw [veqL_eq h.1, veqLL_eq h.2]
end
def peq : List (V × V) → List (V × V) → Bool
 | [], [] => true
 | a :: as, b :: bs => veq a.1 b.1 && veq a.2 b.2 && peq as bs
 | _, _ => false
theorem peq_eq : ∀ {a b : List (V × V)}, peq a b = true → a = b
 | [], b, h => by cases b <;> simp [peq] at h; rfl
 | (a1, a2) :: as, b, h => by
  cases b with
  | nil => simp [peq] at h
  | cons b bs =>
   obtain ⟨b1, b2⟩ := b
   simp [peq] at h
   rw [veq_eq h.1.1, veq_eq h.1.2, peq_eq h.2]
def beqB : Option Blk → Option Blk → Bool
 | none, none => true
 | some (.cells a), some (.cells b) => veqL a b
 | some (.zone a), some (.zone b) => a == b
 | some (.froz a), some (.froz b) => veqL a b
 | some (.map a), some (.map b) => peq a b
 | some (.siter a i), some (.siter b j) => a == b && i == j
 | _, _ => false
theorem beqB_eq {a b : Option Blk} (h : beqB a b = true) : a = b := by
 cases a with
 | none => cases b <;> simp [beqB] at h; rfl
 | some a =>
  cases b with
  | none => cases a <;> simp [beqB] at h
  | some b =>
   cases a <;> cases b <;> simp [beqB] at h
   ·rw [veqL_eq h]
   ·rw [h]
   ·rw [veqL_eq h]
   ·rw [peq_eq h]
   ·rw [h.1, h.2]
def heqB : Heap → Heap → Bool
 | [], [] => true
 | a :: as, b :: bs => beqB a b && heqB as bs
 | _, _ => false
theorem heqB_eq : ∀ {a b : Heap}, heqB a b = true → a = b
 | [], b, h => by cases b <;> simp [heqB] at h; rfl
 | _ :: _, b, h => by cases b <;> simp [heqB] at h; rw [beqB_eq h.1, heqB_eq h.2]
inductive In where
 | F (f : Nat) (args : List V) (H : Heap)
 | S (base : Nat) (o : SOper) (e : Env) (H : Heap)
 | O (base : Nat) (os : List SOper) (e : Env) (H : Heap)
 | C (c : SCode) (e : Env) (H : Heap)
 | L (n : Nat) (l : List Nat) (c : SCode) (e : Env) (H : Heap)
inductive Out where
 | F (r : V) (H : Heap)
 | E (e : Env) (H : Heap)
 | C (x : Ex) (e : Env) (H : Heap)
def IsRun (G : Tbl) : In → Out → Prop
 | .F f args H, .F r H' => Big G (.F f args H r H')
 | .S base o e H, .E e' H' => Big G (.S base o e H e' H')
 | .O base os e H, .E e' H' => Big G (.O base os e H e' H')
 | .C c e H, .C x e' H' => Big G (.C c e H x e' H')
 | .L n l c e H, .C x e' H' => Big G (.L n l c e H x e' H')
 | _, _ => False
def beqO : Option (Option Blk) → Option (Option Blk) → Bool
 | some a, some b => beqB a b
 | none, none => true
 | _, _ => false
def leavesB (e : Env) (rs : List Nat) (H H1 : Heap) : Bool := rs.all fun r => match (e r).ptrId? with | some id => beqO H1[id]? H[id]? | none => true
theorem leavesB_ok {e : Env} {rs : List Nat} {H H1 : Heap} (h : leavesB e rs H H1 = true) : Leaves e rs H H1 := by
 intro r hr id hid
 have := List.all_eq_true.1 h r hr
 simp only [hid] at this
 unfold beqO at this
 split at this
 ·rename_i a b h1 h2; rw [h1, h2, beqB_eq this]
 ·rename_i h1 h2; rw [h1, h2]
 ·cases this
def keqB (n : Nat) : List (Nat × V) → Bool
 | [] => true
 | (_, v) :: l => veq (v.cl n) v && keqB n l
theorem keqB_ok (n : Nat) : ∀ {l : List (Nat × V)}, keqB n l = true → l.map (fun p => (p.1, p.2.cl n)) = l
 | [], _ => rfl
 | (i, v) :: l, h => by
  simp only [keqB, Bool.and_eq_true] at h
  simp only [List.map_cons, veq_eq h.1, keqB_ok n h.2]
def clB (n : Nat) : Option Blk → Bool
 | some (.loop e _ _ _ .ready) => keqB n e
 | some (.loop e _ _ _ .busy) => keqB n e
 | b => beqB (b.map (Blk.cl n)) b
theorem clB_ok (n : Nat) {b : Option Blk} (h : clB n b = true) : b.map (Blk.cl n) = b := by
 unfold clB at h
 split at h
 ·simp only [Option.map_some, Blk.cl, keqB_ok n h]
 ·simp only [Option.map_some, Blk.cl, keqB_ok n h]
 ·exact beqB_eq h
def elderB (base : Nat) (args : List V) (H H' : Heap) : Bool := args.all (fun v => veq (v.cl base) v) && H.all (clB base) && heqB (H'.drop base) (H.drop base)
theorem elderB_ok {base : Nat} {args : List V} {H H' : Heap} (h : elderB base args H H' = true) : Elder base args H H' := by
 simp only [elderB, Bool.and_eq_true, List.all_eq_true] at h
 refine ⟨fun v hv => veq_eq (h.1.1 v hv), ?_, heqB_eq h.2⟩
 conv => rhs; rw [← List.map_id H]
 exact List.map_congr_left fun b hb => clB_ok base (h.1.2 b hb)
def strInt : List (V × V) → Option (List (List UInt8 × Int))
 | [] => some []
 | (.str s, .int .u32 n) :: l => (strInt l).map ((s, n) :: ·)
 | _ => none
def natX : Nat → List V → Heap → Option V
 | 0, [.mp id, .int .u32 n], H => match H[id]? with
  | some (some (.map es)) => match strInt es with
   | some l => if (l.map (·.2)).Nodup then some (.str (((l.find? fun p => p.2 == n).map (·.1)).getD [])) else none
   | none => none
  | _ => none
 | 0, [.nilm, .int .u32 _], _ => some (.str [])
 | _, _, _ => none
theorem strInt_ok : ∀ {es : List (V × V)} {l : List (List UInt8 × Int)}, strInt es = some l → es = l.map fun p => (V.str p.1, V.int .u32 p.2)
 | [], l, h => by simp only [strInt, Option.some.injEq] at h; subst h; rfl
 | (k, v) :: es, l, h => by
  unfold strInt at h
  split at h
  ·rename_i he; cases he
  ·rename_i s n es' he
   cases he
   rw [Option.map_eq_some_iff] at h
   obtain ⟨l', h1, rfl⟩ := h
   rw [strInt_ok h1]; rfl
  ·cases h
theorem natX_ok {k : Nat} {args : List V} {H : Heap} {r : V} (h : natX k args H = some r) : natR k args H r H := by
 unfold natX at h
 split at h
 ·split at h
  ·rename_i hb
   split at h
   ·rename_i l hl
    split at h
    ·rename_i hn
     cases h
     rw [strInt_ok hl] at hb
     exact ⟨rfl, l, hb, hn, rfl⟩
    ·cases h
   ·cases h
  ·cases h
 ·cases h; exact ⟨rfl, rfl⟩
 ·cases h
def natF (fn : SFn) (args : List V) (H : Heap) : Option Out := match fn.body with
 | .nat k => match natX k args H with
  | some r => some (.F r H)
  | none => none
 | _ => none
def execS (G : Tbl) (ex : In → Option Out) : In → Option Out
 | .F f args H => match G f with
  | some fn => if args.length ≤ fn.nt then
    match ex (.C fn.body (envOf args) H) with
    | some (.C x e' H') => match x with
     | .exit _ => none
     | _ => match evRess e' H' fn.res with
      | some vs => some (.F (resOf vs) H')
      | none => none
    | _ => none
   else natF fn args H
  | none => none
 | .S base o e H => match wanted e o with
  | some true => match o.op with
   | .pcall f xs => match ex (.F f (outL (xs.map (X.ev e))) []) with
    | some (.F r H1) => some (.E (e.put o.dst (frz H1 r).out) H)
    | _ => none
   | .scall f xs => match ex (.F f (xs.map (X.ev e)) H) with
    | some (.F r H1) => some (.E (e.put o.dst (r.cl H.length)) (trunc H.length H1))
    | _ => none
   | .scallA rs f xs => match ex (.F f (xs.map (X.ev e)) H) with
    | some (.F r H1) => if leavesB e rs H (trunc H.length H1) = true then some (.E (e.put o.dst (r.cl H.length)) (trunc H.length H1)) else none
    | _ => none
   | .scallE f xs => match ex (.F f (xs.map (X.ev e)) H) with
    | some (.F r H1) => if elderB base (xs.map (X.ev e)) H (trunc H.length H1) = true then some (.E (e.put o.dst (r.cl H.length)) (trunc H.length H1)) else none
    | _ => none
   | .kcall true _ _ => none
   | .kcall false f xs => match ex (.F f (xs.map (X.ev e)) H) with
    | some (.F r H1) => some (.E (e.put o.dst r) H1)
    | _ => none
   | .vcall ro fx xs => match fx.ev e with
    | .fn f cap => match ex (.F f (xs.map (X.ev e) ++ cap) H) with
     | some (.F r H1) => if !ro || heqB (trunc H.length H1) H then some (.E (e.put o.dst (r.cl H.length)) (trunc H.length H1)) else none
     | _ => none
    | .yld id => match ro with
     | true => none
     | false => match H[id]? with
      | some (some (.loop e0 ps as bo .ready)) => if xs.length = ps.length then
        match ex (.C as (putP ps (xs.map (X.ev e)) (mkE e0)) H) with
        | some (.C .nx e1 H1) => match H1[id]? with
         | some (some (.loop f0 fps fas fbo .ready)) => match ex (.C bo e1 (H1.set id (some (.loop f0 fps fas fbo .busy)))) with
          | some (.C x e2 H2) => match H2[id]? with
           | some (some (.loop g0 gps gas gbo .busy)) => some (.E (e.put o.dst (.bool (decide (x = .nx)))) (trunc H.length (H2.set id (some (.loop g0 gps gas gbo (if x = .nx then .ready else .done x))))))
           | _ => none
          | _ => none
         | _ => none
        | _ => none
       else none
      | _ => none
    | _ => none
   | op => match ev1 base e H op with
    | some (v, H1) => some (.E (e.put o.dst v) H1)
    | none => none
  | some false => some (.E (e.put o.dst .skp) H)
  | none => none
 | .O base os e H => match os with
  | [] => some (.E e H)
  | o :: os => match ex (.S base o e H) with
   | some (.E e1 H1) => ex (.O base os e1 H1)
   | _ => none
 | .C c e H => match c with
  | .skip => some (.C .nx e H)
  | .region m ops => match ex (.O H.length ops e (H ++ List.replicate m none)) with
   | some (.E e1 H1) => some (.C .nx e1 H1)
   | _ => none
  | .seq a b => match ex (.C a e H) with
   | some (.C x e1 H1) => match x with
    | .nx => ex (.C b e1 H1)
    | x => some (.C x e1 H1)
   | _ => none
  | .cond c a b => match c.ev e with
   | .bool t => match t with
    | true => ex (.C a e H)
    | false => ex (.C b e H)
   | _ => none
  | .block id c => match ex (.C c e H) with
   | some (.C x e1 H1) => some (.C (if x = .exit id then .nx else x) e1 H1)
   | _ => none
  | .loop l c => ex (.L H.length l c e H)
  | .exit id => some (.C (.exit id) e H)
  | .ret => some (.C .ret e H)
  | .keep l => some (.C .nx (keepE l e) H)
  | .give t off => match giveIt e H t off with
   | some (e1, H1) => some (.C .nx e1 H1)
   | none => none
  | .freeze t => match frzIt e H t with
   | some (e1, H1) => some (.C .nx e1 H1)
   | none => none
  | .nat _ => none
  | .rangeF g l ps as bo => match g.ev e with
   | .fn f cap => match ex (.F f (.yld H.length :: cap) (H ++ [some (.loop (look e l) ps as bo .ready)])) with
    | some (.F _ H1) => match H1[H.length]? with
     | some (some (.loop _ _ _ _ .ready)) => some (.C .nx e (trunc H.length H1))
     | some (some (.loop _ _ _ _ (.done x))) => match x with
      | .nx => none
      | x => some (.C x e (trunc H.length H1))
     | _ => none
    | _ => none
   | _ => none
 | .L n l c e H => match ex (.C c ((keepE l e).cl n) (trunc n H)) with
  | some (.C x e1 H1) => match x with
   | .nx => ex (.L n l c e1 H1)
   | x => some (.C x e1 H1)
  | _ => none
def exec (G : Tbl) : Nat → In → Option Out
 | 0, _ => none
 | k + 1, i => execS G (exec G k) i
theorem execS_sound {G : Tbl} {ex : In → Option Out} (hx : ∀ i o, ex i = some o → IsRun G i o) : ∀ i o, execS G ex i = some o → IsRun G i o := by
 intro i o h
 cases i with
 | F f args H =>
  simp only [execS] at h
  split at h
  case h_2 => cases h
  rename_i fn hf
  split at h
  case isFalse =>
   unfold natF at h
   split at h
   ·rename_i k hk
    split at h
    ·rename_i r hr
     cases h
     exact Big.nat hf hk (natX_ok hr)
    ·cases h
   ·cases h
  rename_i hl
  split at h
  case h_2 => cases h
  rename_i x e' H' hb
  have hb := hx _ _ hb
  simp only [IsRun] at hb
  split at h
  ·cases h
  rename_i hne
  split at h
  case h_2 => cases h
  rename_i vs hvs
  cases h
  refine Big.fn hf hl hb ?_ hvs
  cases x with
  | nx => exact .inl rfl
  | ret => exact .inr rfl
  | exit k => exact absurd rfl (hne k)
 | S base o e H =>
  simp only [execS] at h
  split at h
  case h_3 => cases h
  ·rename_i hw
   split at h
   ·rename_i f xs hop
    split at h
    case h_2 => cases h
    rename_i r H1 hb
    cases h
    exact Big.pcall hw hop (hx _ _ hb)
   ·rename_i f xs hop
    split at h
    case h_2 => cases h
    rename_i r H1 hb
    cases h
    exact Big.scall hw hop (hx _ _ hb)
   ·rename_i rs f xs hop
    split at h
    case h_2 => cases h
    rename_i r H1 hb
    split at h
    case isFalse => cases h
    rename_i hlv
    cases h
    exact Big.scallA hw hop (hx _ _ hb) (leavesB_ok hlv)
   ·rename_i f xs hop
    split at h
    case h_2 => cases h
    rename_i r H1 hb
    split at h
    case isFalse => cases h
    rename_i hlv
    cases h
    exact Big.scallE hw hop (hx _ _ hb) (elderB_ok hlv)
   ·cases h
   ·rename_i f xs hop
    split at h
    case h_2 => cases h
    rename_i r H1 hb
    cases h
    exact Big.kcall hw hop (hx _ _ hb) (fun h => by cases h)
   ·rename_i ro fx xs hop
    split at h
    case h_3 => cases h
    ·rename_i f cap hfx
     split at h
     case h_2 => cases h
     rename_i r H1 hb
     split at h
     case isFalse => cases h
     rename_i hro
     cases h
     exact Big.vcall hw hop hfx (hx _ _ hb) (fun h => by
      subst h
      simp only [Bool.not_true, Bool.false_or] at hro
      exact heqB_eq hro)
    ·rename_i id hfx
     split at h
     ·cases h
     split at h
     case h_2 => cases h
     rename_i hb
     split at h
     case isFalse => cases h
     rename_i hl
     split at h
     case h_2 => cases h
     rename_i ha
     split at h
     case h_2 => cases h
     rename_i hb1
     split at h
     case h_2 => cases h
     rename_i hbo
     split at h
     case h_2 => cases h
     rename_i hb2
     cases h
     exact Big.ycall hw hop hfx hb hl (hx _ _ ha) hb1 (hx _ _ hbo) hb2
   ·split at h
    case h_2 => cases h
    rename_i v H1 hv
    cases h
    exact Big.ev hw hv
  ·rename_i hw
   cases h
   exact Big.skip hw
 | O base os e H =>
  simp only [execS] at h
  split at h
  ·cases h; exact Big.nil
  ·split at h
   case h_2 => cases h
   rename_i e1 H1 hb
   have h2 := hx _ _ h
   cases o <;> simp only [IsRun] at h2
   exact Big.cons (hx _ _ hb) h2
 | C c e H =>
  cases c with
  | skip => simp only [execS, Option.some.injEq] at h; subst h; exact Big.cskip
  | nat k => simp [execS] at h
  | region m ops =>
   simp only [execS] at h
   split at h
   case h_2 => cases h
   rename_i hb; cases h; exact Big.region (hx _ _ hb)
  | seq a b =>
   simp only [execS] at h
   split at h
   case h_2 => cases h
   rename_i x e1 H1 hb
   split at h
   ·have h2 := hx _ _ h
    cases o <;> simp only [IsRun] at h2
    exact Big.seqN (hx _ _ hb) h2
   ·rename_i hne
    cases h
    exact Big.seqX (hx _ _ hb) (fun h => hne h)
  | cond c a b =>
   simp only [execS] at h
   split at h
   case h_2 => cases h
   rename_i t ht
   split at h
   ·have h2 := hx _ _ h
    cases o <;> simp only [IsRun] at h2
    exact Big.cond ht h2
   ·have h2 := hx _ _ h
    cases o <;> simp only [IsRun] at h2
    exact Big.cond ht h2
  | block id c =>
   simp only [execS] at h
   split at h
   case h_2 => cases h
   rename_i hb; cases h; exact Big.block (hx _ _ hb)
  | loop l c =>
   simp only [execS] at h
   have h2 := hx _ _ h
   cases o <;> simp only [IsRun] at h2
   exact Big.loop h2
  | exit id => simp only [execS, Option.some.injEq] at h; subst h; exact Big.exit
  | ret => simp only [execS, Option.some.injEq] at h; subst h; exact Big.ret
  | keep l => simp only [execS, Option.some.injEq] at h; subst h; exact Big.keep
  | give t off =>
   simp only [execS] at h
   split at h
   case h_2 => cases h
   rename_i hb; cases h; exact Big.give hb
  | freeze t =>
   simp only [execS] at h
   split at h
   case h_2 => cases h
   rename_i hb; cases h; exact Big.freeze hb
  | rangeF g l ps as bo =>
   simp only [execS] at h
   split at h
   case h_2 => cases h
   rename_i f cap hg
   split at h
   case h_2 => cases h
   rename_i hf
   split at h
   case h_3 => cases h
   ·rename_i hb
    cases h
    exact Big.rangeF hg (hx _ _ hf) hb (.inl ⟨rfl, rfl⟩)
   ·rename_i hb
    split at h
    ·cases h
    ·rename_i hne
     cases h
     exact Big.rangeF hg (hx _ _ hf) hb (.inr ⟨rfl, fun h => hne h⟩)
 | L n l c e H =>
  simp only [execS] at h
  split at h
  case h_2 => cases h
  rename_i x e1 H1 hb
  split at h
  ·have h2 := hx _ _ h
   cases o <;> simp only [IsRun] at h2
   exact Big.round (hx _ _ hb) h2
  ·rename_i hne
   cases h
   exact Big.last (hx _ _ hb) (fun h => hne h)
end Go.Ev
/- What the functions of ins, and those of hurdleref02, compute. -/
namespace Go.Ev
open Go Go.RowKit
variable {G : Tbl}
set_option maxRecDepth 10000
set_option maxHeartbeats 2000000
set_option linter.unusedSimpArgs false
set_option linter.unusedVariables false
structure In4 where
 op : Int
 jt : Int
 jf : Int
 k : Nat
 deriving DecidableEq
def In4.cs (x : In4) : List V := [.int .i64 x.op, .int .i64 x.jt, .int .i64 x.jf, .int .u32 (x.k : Int)]
def IV (x : In4) : V := .agg x.cs
def IL (l : List In4) : List (List V) := l.map In4.cs
def FL (l : List In4) : V := .vs (IL l) .no
@[simp] theorem IL_length (l : List In4) : (IL l).length = l.length := by simp [IL]
@[simp] theorem IL_get (l : List In4) (i : Nat) : (IL l)[i]? = (l[i]?).map In4.cs := by simp [IL]
@[simp] theorem IL_nil : IL [] = [] := rfl
@[simp] theorem IL_snoc (l : List In4) (x : In4) : IL l ++ [x.cs] = IL (l ++ [x]) := by simp [IL]
@[simp] theorem IL_sz (l : List In4) : (∀ f ∈ IL l, f.length = 4) = True := by
 simp only [eq_iff_iff, iff_true]
 intro f hf
 simp only [IL, List.mem_map] at hf
 obtain ⟨x, _, rfl⟩ := hf
 rfl
@[simp] theorem cs_length (x : In4) : x.cs.length = 4 := rfl
abbrev Row4 := Int × List UInt8 × Bool × Bool
def rowCs (r : Row4) : List V := [.int .i64 r.1, .str r.2.1, .bool r.2.2.1, .bool r.2.2.2]
def shapeOf (op : Int) : Option Row4 := shapeRows.find? fun r => r.1 == op
theorem flat_at {α β : Type} (g : α → List β) (k : Nat) (hk : ∀ a, (g a).length = k) : ∀ (l : List α) (n : Nat) (a : α), l[n]? = some a → (((l.map g).flatten).drop (n * k)).take k = g a
 | [], n, a, h => by simp at h
 | b :: l, 0, a, h => by
  simp at h; subst h
  simp [List.take_append_of_le_length, hk]
 | b :: l, n + 1, a, h => by
  simp only [List.getElem?_cons_succ] at h
  rw [List.map_cons, List.flatten_cons, Nat.add_mul, Nat.one_mul, Nat.add_comm, ← hk b, List.drop_length_add_append]
  have := flat_at g k hk l n a h
  rw [hk b]
  exact this
theorem shapes_at {n : Nat} {r : Row4} (h : shapeRows[n]? = some r) : (g_ins_shapes.drop (n * 4)).take 4 = rowCs r := flat_at (fun r : Row4 => rowCs r) 4 (fun _ => rfl) shapeRows n r h
theorem shapes_len : g_ins_shapes.length = 156 := by decide
theorem shapes_take : g_ins_shapes.take 156 = g_ins_shapes := by rw [List.take_of_length_le]; rw [shapes_len]; exact Nat.le_refl _
theorem shapes_cl (n : Nat) : clL n g_ins_shapes = g_ins_shapes := by
 rw [clL_eq_map]
 simp [g_ins_shapes, List.map_flatten, Function.comp_def, V.cl]
def ofV (op : Int) : V := match shapeOf op with
 | some r => .tup [.agg (rowCs r), .bool true]
 | none => .tup [.agg [.int .i64 0, .str [], .bool false, .bool false], .bool false]
theorem find_none {α : Type} {p : α → Bool} {l : List α} (h : ∀ (n : Nat) (a : α), l[n]? = some a → p a = false) : l.find? p = none := by
 rw [List.find?_eq_none]
 intro a ha
 obtain ⟨n, hn⟩ := List.getElem?_of_mem ha
 simp [h n a hn]
theorem find_at {α : Type} {p : α → Bool} : ∀ {l : List α} {n : Nat} {a : α}, l[n]? = some a → p a = true → (∀ (m : Nat) (b : α), m < n → l[m]? = some b → p b = false) → l.find? p = some a
 | [], n, a, h, _, _ => by simp at h
 | b :: l, 0, a, h, hp, _ => by simp at h; subst h; simp [hp]
 | b :: l, n + 1, a, h, hp, hn => by
  rw [List.find?_cons]
  rw [hn 0 b (by omega) rfl]
  exact find_at (by simpa using h) hp fun m c hm hc => hn (m + 1) c (by omega) (by simpa using hc)
def NoRow (op : Int) (n : Nat) : Prop := ∀ (m : Nat) (b : Row4), m < n → shapeRows[m]? = some b → (b.1 == op) = false
theorem of_ok [HasIns G] (op : Int) : FP G 139 [.int .i64 op] (ofV op) := by
 refine FP_of HasIns.h_ins_of (Nat.le_of_ble_eq_true rfl) ?_
 simp [shapes_len, shapes_take]
 refine W_up 39 (fun n => [(0, .int .i64 op), (2, .ptr 0 0), (6, .agg g_ins_shapes), (7, .int .i64 n)]) (fun _ => [some (.cells [.int .i64 0, .str [], .bool false, .bool false])])
  (fun n => NoRow op n) ?_ ?_
 ·simp [keep_cl, trunc, shapes_cl]
  intro m b hm; omega
 intro n hn hall
 by_cases hlt : n < 39
 ·obtain ⟨r, hr⟩ : ∃ r, shapeRows[n]? = some r := ⟨_, List.getElem?_eq_getElem (show n < shapeRows.length from hlt)⟩
  have hs := shapes_at hr
  by_cases he : r.1 = op
  ·have : shapeOf op = some r := find_at hr (by simpa using he) hall
   simp (disch := omega) [ltT, leTn, shapes_len, hs, rowCs, he, this, ofV, -Int.natCast_add]
  ·have hall' : NoRow op (n + 1) := fun m b hm hb => by
    by_cases hmn : m = n
    ·subst hmn; rw [hr] at hb; cases hb; simpa using he
    ·exact hall m b (by omega) hb
   simp (disch := omega) [ltT, leTn, shapes_len, hs, rowCs, beqF, he, add1', hlt, keep_cl, trunc, shapes_cl, hall', -Int.natCast_add]
 ·have hne : n = 39 := by omega
  subst hne
  have : shapeOf op = none := find_none fun m b hb => hall m b (by have := (List.getElem?_eq_some_iff.1 hb).1; exact this) hb
  simp [this, ofV]
theorem shape_some {op : Int} {r : Row4} (h : shapeOf op = some r) : r.1 = op ∧ r ∈ shapeRows := by
 have h1 := List.find?_some h
 exact ⟨by simpa using h1, List.mem_of_find?_eq_some h⟩
theorem shape_none {op : Int} (h : shapeOf op = none) : ∀ r ∈ shapeRows, r.1 ≠ op := fun r hr => by
 have := List.find?_eq_none.1 h r hr
 simpa using this
def aluT (op : Int) : Int × Bool × Bool :=
 if op ∈ [4, 20, 36, 52, 68, 84, 100, 116, 164] then (op, false, true) else if op ∈ [12, 28, 44, 60, 76, 92, 108, 124, 172] then (op - 8, true, true) else (0, false, false)
def isBr (op : Int) : Bool := decide (op ∈ [21, 37, 53, 69, 29, 45, 61, 77])
def isEnd (op : Int) : Bool := decide (op = 6 ∨ op = 22)
theorem alu_none {op : Int} (h : shapeOf op = none) : aluT op = (0, false, false) := by
 have h1 : ∀ p ∈ [4, 20, 36, 52, 68, 84, 100, 116, 164, 12, 28, 44, 60, 76, 92, 108, 124, 172], ∃ r ∈ shapeRows, r.1 = p := by decide
 unfold aluT
 rw [if_neg, if_neg]
 ·intro hm
  obtain ⟨r, hr, he⟩ := h1 op (by simp only [List.mem_cons, List.not_mem_nil, or_false] at hm ⊢; omega)
  exact shape_none h r hr he
 ·intro hm
  obtain ⟨r, hr, he⟩ := h1 op (by simp only [List.mem_cons, List.not_mem_nil, or_false] at hm ⊢; omega)
  exact shape_none h r hr he
theorem br_none {op : Int} (h : shapeOf op = none) : isBr op = false := by
 have h1 : ∀ p ∈ [21, 37, 53, 69, 29, 45, 61, 77], ∃ r ∈ shapeRows, r.1 = p := by decide
 simp only [isBr, decide_eq_false_iff_not]
 intro hm
 obtain ⟨r, hr, he⟩ := h1 op hm
 exact shape_none h r hr he
theorem Ends_ok [HasIns G] (x : In4) : FP G 143 [IV x] (.bool (isEnd x.op)) := by
 refine FP_of HasIns.h_ins_Ends (Nat.le_of_ble_eq_true rfl) ?_
 simp [IV, In4.cs]
 by_cases h : x.op = 6
 ·simp [h, isEnd]
 ·by_cases h2 : x.op = 22 <;> simp [h, h2, beqF, isEnd]
theorem Branch_ok [HasIns G] (x : In4) : FP G 142 [IV x] (.bool (isBr x.op)) := by
 refine FP_of HasIns.h_ins_Branch (Nat.le_of_ble_eq_true rfl) ?_
 simp [IV, In4.cs]
 refine callP_of (of_ok x.op) ?_
 unfold ofV
 cases h : shapeOf x.op with
 | none => simp [br_none h]
 | some r =>
  obtain ⟨he, hr⟩ := shape_some h
  have key : ∀ r ∈ shapeRows, (decide (andI .i64 r.1 7 = 5) && decide (r.1 ≠ 5)) = isBr r.1 := by decide
  have key := key r hr
  rw [he] at key
  by_cases h1 : andI .i64 x.op 7 = 5
  ·by_cases h2 : x.op = 5
   ·simp [h1, h2] at key; simp [rowCs, h1, h2]; rw [h2] at h1; simp [h1]; exact key
   ·simp [h1, h2] at key; simp [rowCs, h1, h2, bneT, key]
  ·simp [h1] at key; simp [rowCs, h1, beqF, key]
theorem Alu_ok [HasIns G] (x : In4) : FP G 141 [IV x] (.tup [.int .i64 (aluT x.op).1, .bool (aluT x.op).2.1, .bool (aluT x.op).2.2]) := by
 refine FP_of HasIns.h_ins_Alu (Nat.le_of_ble_eq_true rfl) ?_
 simp [IV, In4.cs]
 refine callP_of (of_ok x.op) ?_
 unfold ofV
 cases h : shapeOf x.op with
 | none => simp [alu_none h]
 | some r =>
  obtain ⟨he, hr⟩ := shape_some h
  have key : ∀ r ∈ shapeRows, aluT r.1 = if andI .i64 r.1 7 ≠ 4 ∨ r.1 = 132 then (0, false, false) else (andnI .i64 r.1 8, decide (andI .i64 r.1 8 > 0), true) := by decide
  have key := key r hr
  rw [he] at key
  by_cases h1 : andI .i64 x.op 7 = 4
  ·by_cases h2 : x.op = 132
   ·have h3 : andI .i64 132 7 = 4 := by decide
    rw [if_pos (.inr h2)] at key; simp [rowCs, h2, h3, bneF, beqT, h2 ▸ key]
   ·rw [if_neg (by simp [h1, h2])] at key; simp [rowCs, h1, h2, bneF, beqF, key]
  ·rw [if_pos (.inl h1)] at key; simp [rowCs, h1, bneT, key]
def rightI (x : In4) : Bool := match shapeOf x.op with
 | some r => (r.2.2.1 || decide (x.k = 0)) && (if r.2.2.2 then decide (0 ≤ x.jt ∧ x.jt ≤ 255 ∧ 0 ≤ x.jf ∧ x.jf ≤ 255) else decide (x.jt = 0 ∧ x.jf = 0))
 | none => false
theorem RightI_ok [HasIns G] (x : In4) : FP G 140 [IV x] (.bool (rightI x)) := by
 refine FP_of HasIns.h_ins_Right (Nat.le_of_ble_eq_true rfl) ?_
 simp [IV, In4.cs]
 refine callP_of (of_ok x.op) ?_
 unfold ofV rightI
 cases h : shapeOf x.op with
 | none => simp
 | some r =>
  obtain ⟨op, w, has, ways⟩ := r
  have ways_ok : ∀ {H : Heap}, True := trivial
  cases has
  ·by_cases hk : x.k = 0
   ·cases ways
    ·by_cases h1 : x.jt = 0
     ·by_cases h2 : x.jf = 0 <;> simp [rowCs, hk, h1, h2, beqF]
     ·simp [rowCs, hk, h1, beqF]
    ·by_cases h1 : 0 ≤ x.jt
     ·by_cases h2 : x.jt ≤ 255
      ·by_cases h3 : 0 ≤ x.jf
       ·by_cases h4 : x.jf ≤ 255 <;> simp [rowCs, hk, h1, h2, h3, h4]
       ·simp [rowCs, hk, h1, h2, h3]
      ·simp [rowCs, hk, h1, h2]
     ·simp [rowCs, hk, h1]
   ·have hk' : ((x.k : Int) != 0) = true := bneT (by omega)
    simp [rowCs, hk, hk']
  ·cases ways
   ·by_cases h1 : x.jt = 0
    ·by_cases h2 : x.jf = 0 <;> simp [rowCs, h1, h2, beqF]
    ·simp [rowCs, h1, beqF]
   ·by_cases h1 : 0 ≤ x.jt
    ·by_cases h2 : x.jt ≤ 255
     ·by_cases h3 : 0 ≤ x.jf
      ·by_cases h4 : x.jf ≤ 255 <;> simp [rowCs, h1, h2, h3, h4]
      ·simp [rowCs, h1, h2, h3]
     ·simp [rowCs, h1, h2]
    ·simp [rowCs, h1]
/- hurdleref02. -/
def ops39 : List Int := shapeRows.map (·.1)
theorem Ops_ok [HasR2 G] : FP G 177 [] (.vs (ints .i64 ops39) .no) := by
 refine FP_of HasR2.h_hurdleref02_Ops (Nat.le_of_ble_eq_true rfl) ?_
 simp [ints, ops39, shapeRows]
theorem place_ok [HasR2 G] (op : Int) : ∃ p : Int, FP G 176 [.int .i64 op] (.int .i64 p) ∧
  ((∃ (n : Nat) (r : Row4), p = n ∧ shapeRows[n]? = some r ∧ shapeOf op = some r) ∨ p = -1 ∧ shapeOf op = none) := by
 have main : ∀ p : Int, ((∃ (n : Nat) (r : Row4), p = n ∧ shapeRows[n]? = some r ∧ shapeOf op = some r) ∨ p = -1 ∧ shapeOf op = none) → FP G 176 [.int .i64 op] (.int .i64 p) := by
  intro p hp
  refine FP_of HasR2.h_hurdleref02_place (Nat.le_of_ble_eq_true rfl) ?_
  simp
  refine callP_of Ops_ok ?_
  simp
  refine W_up 39 (fun n => [(0, .int .i64 op), (3, .vs (ints .i64 ops39) .no), (4, .int .i64 n)]) (fun _ => []) (fun n => NoRow op n) ?_ ?_
  ·simp [keep_cl, trunc]
   intro m b hm; omega
  intro n hn hall
  have hl : ops39.length = 39 := rfl
  by_cases hlt : n < 39
  ·obtain ⟨r, hr⟩ : ∃ r, shapeRows[n]? = some r := ⟨_, List.getElem?_eq_getElem (show n < shapeRows.length from hlt)⟩
   have ho : ops39[n]? = some r.1 := by simp [ops39, hr]
   obtain ⟨_, hg⟩ := List.getElem?_eq_some_iff.1 ho
   by_cases he : r.1 = op
   ·have hs : shapeOf op = some r := find_at hr (by simpa using he) hall
    have : p = n := by
     rcases hp with ⟨n', r', rfl, h1, h2⟩ | ⟨_, h2⟩
     ·rw [hs] at h2; cases h2
      have h3 : shapeRows.length = 39 := rfl
      have h4 : ∀ i j : Fin 39, shapeRows[i.1]? = shapeRows[j.1]? → i = j := by decide
      have hn' : n' < 39 := by have := (List.getElem?_eq_some_iff.1 h1).1; omega
      have := h4 ⟨n', hn'⟩ ⟨n, hlt⟩ (by rw [h1, hr])
      simp at this; rw [this]
     ·rw [hs] at h2; cases h2
    simp (disch := omega) [ltT, ho, hg, he, hl, this, -Int.natCast_add]
   ·have hall' : NoRow op (n + 1) := fun m b hm hb => by
     by_cases hmn : m = n
     ·subst hmn; rw [hr] at hb; cases hb; simpa using he
     ·exact hall m b (by omega) hb
    simp (disch := omega) [ltT, ho, hg, beqF, he, hl, add1', hlt, keep_cl, trunc, hall', -Int.natCast_add]
  ·have hne : n = 39 := by omega
   subst hne
   have hs : shapeOf op = none := find_none fun m b hb => hall m b (by have := (List.getElem?_eq_some_iff.1 hb).1; exact this) hb
   have : p = -1 := by
    rcases hp with ⟨n', r', rfl, h1, h2⟩ | ⟨h1, _⟩
    ·rw [hs] at h2; cases h2
    ·exact h1
   simp [hl, this]
 cases h : shapeOf op with
 | none => exact ⟨-1, main _ (.inr ⟨rfl, h⟩), .inr ⟨rfl, rfl⟩⟩
 | some r =>
  obtain ⟨he, hr⟩ := shape_some h
  obtain ⟨n, hn⟩ := List.getElem?_of_mem hr
  exact ⟨n, main _ (.inl ⟨n, r, rfl, hn, h⟩), .inl ⟨n, r, rfl, hn, rfl⟩⟩
def plainB (i : Int) : Bool := decide (13 ≤ i ∧ i ≤ 24 ∨ i = 30 ∨ 35 ≤ i)
theorem plain_okR [HasR2 G] (i : Int) : FP G 175 [.int .i64 i] (.bool (plainB i)) := by
 refine FP_of HasR2.h_hurdleref02_plain (Nat.le_of_ble_eq_true rfl) ?_
 unfold plainB
 by_cases h1 : 13 ≤ i
 ·by_cases h2 : i ≤ 24
  ·simp [h1, h2]
  ·by_cases h3 : i = 30
   ·simp [h1, h2, h3]
   ·by_cases h4 : 35 ≤ i <;> simp [h1, h2, h3, h4, beqF]
 ·simp [h1, show ¬ 35 ≤ i from by omega, show ¬ i = 30 from by omega, beqF]
theorem branch_okR [HasR2 G] (i : Int) : FP G 174 [.int .i64 i] (.bool (decide (31 ≤ i))) := by
 refine FP_of HasR2.h_hurdleref02_branch (Nat.le_of_ble_eq_true rfl) ?_
 simp
theorem BranchR_ok [HasR2 G] (x : In4) : FP G 180 [IV x] (.bool (isBr x.op)) := by
 obtain ⟨p, hp, hc⟩ := place_ok (G := G) x.op
 refine FP_of HasR2.h_hurdleref02_Branch (Nat.le_of_ble_eq_true rfl) ?_
 simp [IV, In4.cs]
 refine callP_of hp ?_
 simp
 refine callP_of (branch_okR p) ?_
 have : decide (31 ≤ p) = isBr x.op := by
  rcases hc with ⟨n, r, rfl, h1, h2⟩ | ⟨rfl, h2⟩
  ·have key : ∀ i : Fin 39, ∀ r, shapeRows[i.1]? = some r → decide (31 ≤ (i.1 : Int)) = isBr r.1 := by decide
   have hn : n < 39 := by have := (List.getElem?_eq_some_iff.1 h1).1; exact this
   have := key ⟨n, hn⟩ r h1
   rw [(shape_some h2).1] at this
   exact this
  ·rw [br_none h2]; rfl
 simp [this]
theorem EndsR_ok [HasR2 G] (x : In4) : FP G 181 [IV x] (.bool (isEnd x.op)) := by
 refine FP_of HasR2.h_hurdleref02_Ends (Nat.le_of_ble_eq_true rfl) ?_
 simp [IV, In4.cs]
 by_cases h : x.op = 6
 ·simp [h, isEnd]
 ·by_cases h2 : x.op = 22 <;> simp [h, h2, beqF, isEnd]
theorem RightR2_ok [HasR2 G] (x : In4) : FP G 178 [IV x] (.bool (rightI x)) := by
 obtain ⟨p, hp, hc⟩ := place_ok (G := G) x.op
 refine FP_of HasR2.h_hurdleref02_Right (Nat.le_of_ble_eq_true rfl) ?_
 simp [IV, In4.cs]
 refine callP_of hp ?_
 rcases hc with ⟨n, r, rfl, h1, h2⟩ | ⟨rfl, h2⟩
 case inr => simp [rightI, h2]
 have key : ∀ i : Fin 39, ∀ r, shapeRows[i.1]? = some r → plainB (i.1 : Int) = !r.2.2.1 ∧ decide (31 ≤ (i.1 : Int)) = r.2.2.2 := by decide
 have hn : n < 39 := by have := (List.getElem?_eq_some_iff.1 h1).1; exact this
 obtain ⟨k1, k2⟩ := key ⟨n, hn⟩ r h1
 simp only at k1 k2
 simp (disch := omega) [ltF]
 refine callP_of (plain_okR n) ?_
 unfold rightI
 rw [h2, k1]
 obtain ⟨op, w, has, ways⟩ := r
 simp only at k2 ⊢
 have lt256 : ∀ j : Int, (j < 256) = (j ≤ 255) := fun j => propext (by omega)
 have tail : ∀ b : Bool, b = true → True := fun _ _ => trivial
 cases has
 ·by_cases hk : x.k = 0
  ·simp [hk]
   refine callP_of (branch_okR n) ?_
   rw [k2]
   cases ways
   ·by_cases h1 : x.jt = 0
    ·by_cases h2 : x.jf = 0 <;> simp [h1, h2, beqF]
    ·simp [h1, beqF]
   ·by_cases h1 : 0 ≤ x.jt
    ·by_cases h2 : x.jt ≤ 255
     ·by_cases h3 : 0 ≤ x.jf
      ·by_cases h4 : x.jf ≤ 255 <;> simp [lt256, h1, h2, h3, h4]
      ·simp [lt256, h1, h2, h3]
     ·simp [lt256, h1, h2]
    ·simp [lt256, h1]
  ·have hk' : ((x.k : Int) != 0) = true := bneT (by omega)
   simp [hk, hk']
 ·simp
  refine callP_of (branch_okR n) ?_
  rw [k2]
  cases ways
  ·by_cases h1 : x.jt = 0
   ·by_cases h2 : x.jf = 0 <;> simp [h1, h2, beqF]
   ·simp [h1, beqF]
  ·by_cases h1 : 0 ≤ x.jt
   ·by_cases h2 : x.jt ≤ 255
    ·by_cases h3 : 0 ≤ x.jf
     ·by_cases h4 : x.jf ≤ 255 <;> simp [lt256, h1, h2, h3, h4]
     ·simp [lt256, h1, h2, h3]
    ·simp [lt256, h1, h2]
   ·simp [lt256, h1]
end Go.Ev
/- Forms of a few variables and a table: plain mathematics, with no program in sight. -/
namespace Go.Ev
set_option linter.unusedSimpArgs false
set_option linter.unusedVariables false
def cnt (tab : List Nat) (j : Nat) : Bool := (List.range tab.length).any fun n => tab[n]? != tab[n ^^^ 2 ^ j]?
def okAt (vars : List Int) (tab : List Nat) (j : Nat) : Prop :=
 ∃ v, vars[j]? = some v ∧ 0 ≤ v ∧ v < 34 ∧ (∀ u, 0 < j → vars[j - 1]? = some u → u < v) ∧ cnt tab j = true
def Right (vars : List Int) (tab : List Nat) : Prop := vars.length ≤ 4 ∧ tab.length = 2 ^ vars.length ∧ ∀ j, j < vars.length → okAt vars tab j
abbrev Up (l : List Int) : Prop := l.Pairwise (· < ·)
theorem Up.nodup {l : List Int} (h : Up l) : l.Nodup := h.imp (fun h e => by omega)
theorem nodup_inj {l : List Int} (h : l.Nodup) {i j : Nat} {hi : i < l.length} {hj : j < l.length} (e : l[i] = l[j]) : i = j := by
 rcases Nat.lt_trichotomy i j with hl | hl | hl
 ·exact absurd e (List.pairwise_iff_getElem.1 h _ _ _ _ hl)
 ·exact hl
 ·exact absurd e.symm (List.pairwise_iff_getElem.1 h _ _ _ _ hl)
def mer : List Int → List Int → List Int
 | [], b => b
 | a, [] => a
 | x :: a, y :: b => if x < y then x :: mer a (y :: b) else if y < x then y :: mer (x :: a) b else x :: mer a b
termination_by a b => a.length + b.length
def idx : List Int → (Int → Bool) → Nat
 | [], _ => 0
 | v :: vs, p => (p v).toNat + 2 * idx vs p
theorem idx_lt : ∀ (vs : List Int) (p : Int → Bool), idx vs p < 2 ^ vs.length
 | [], _ => by simp [idx]
 | v :: vs, p => by
  have := idx_lt vs p
  have h2 : (p v).toNat ≤ 1 := by cases p v <;> simp
  simp only [idx, List.length_cons, Nat.pow_succ]; omega
theorem idx_bit (p : Int → Bool) : ∀ (vs : List Int) (j : Nat), (idx vs p).testBit j = (vs[j]?.map p).getD false
 | [], j => by simp [idx]
 | v :: vs, 0 => by
  simp only [idx, Nat.testBit_zero, List.getElem?_cons_zero, Option.map_some, Option.getD_some]
  cases p v <;> simp <;> omega
 | v :: vs, j + 1 => by
  simp only [List.getElem?_cons_succ, ← idx_bit p vs j, idx, Nat.testBit_succ]
  congr 1
  cases p v <;> simp <;> omega
def say (vs : List Int) (n : Nat) : Int → Bool := fun v => n.testBit (vs.idxOf v)
theorem idx_say {vs : List Int} (h : vs.Nodup) {n : Nat} (hn : n < 2 ^ vs.length) : idx vs (say vs n) = n := by
 refine Nat.eq_of_testBit_eq fun j => ?_
 rw [idx_bit]
 by_cases hj : j < vs.length
 ·rw [List.getElem?_eq_getElem hj]
  simp only [Option.map_some, Option.getD_some, say]
  rw [List.Nodup.idxOf_getElem h]
 ·rw [List.getElem?_eq_none (by omega)]
  simp only [Option.map_none, Option.getD_none]
  rw [Nat.testBit_lt_two_pow (Nat.lt_of_lt_of_le hn (Nat.pow_le_pow_right (by decide) (by omega)))]
def flip (p : Int → Bool) (v : Int) : Int → Bool := fun u => if u = v then !p u else p u
theorem idx_flip {vs : List Int} (h : vs.Nodup) (p : Int → Bool) {j : Nat} {v : Int} (hv : vs[j]? = some v) : idx vs (flip p v) = idx vs p ^^^ 2 ^ j := by
 have hj : j < vs.length := by
  rcases Nat.lt_or_ge j vs.length with h | h
  ·exact h
  ·rw [List.getElem?_eq_none h] at hv; cases hv
 refine Nat.eq_of_testBit_eq fun i => ?_
 rw [Nat.testBit_xor, idx_bit, idx_bit, Nat.testBit_two_pow]
 by_cases hi : i < vs.length
 ·rw [List.getElem?_eq_getElem hi]
  simp only [Option.map_some, Option.getD_some, flip]
  rw [List.getElem?_eq_getElem hj] at hv; cases hv
  by_cases hij : i = j
  ·subst hij; simp
  ·have : vs[i] ≠ vs[j] := fun e => hij (nodup_inj h e)
   have hji : j ≠ i := fun e => hij e.symm
   simp [this, hji]
 ·rw [List.getElem?_eq_none (by omega)]
  have hji : j ≠ i := by omega
  simp [hji]
def sem (vs : List Int) (tab : List Nat) (p : Int → Bool) : Nat := tab.getD (idx vs p) 0
def dep (f : (Int → Bool) → Nat) (v : Int) : Prop := ∃ p, f p ≠ f (flip p v)
theorem cnt_iff {vs : List Int} {tab : List Nat} (h : vs.Nodup) (hl : tab.length = 2 ^ vs.length) {j : Nat} {v : Int} (hv : vs[j]? = some v) : cnt tab j = true ↔ dep (sem vs tab) v := by
 have get (n : Nat) (hn : n < tab.length) : tab[n]? = some (tab.getD n 0) := by rw [List.getElem?_eq_getElem hn, List.getD_eq_getElem?_getD, List.getElem?_eq_getElem hn]; rfl
 have hj : j < vs.length := by
  rcases Nat.lt_or_ge j vs.length with h | h
  ·exact h
  ·rw [List.getElem?_eq_none h] at hv; cases hv
 simp only [cnt, List.any_eq_true, List.mem_range, bne_iff_ne, ne_eq, dep, sem]
 constructor
 ·rintro ⟨n, hn, hne⟩
  refine ⟨say vs n, fun e => hne ?_⟩
  rw [idx_flip h _ hv, idx_say h (by omega)] at e
  rw [get n hn, get _ (by rw [hl] at hn ⊢; exact Nat.xor_lt_two_pow hn (Nat.pow_lt_pow_right (by decide) hj)), e]
 ·rintro ⟨p, hp⟩
  have h1 : idx vs p < tab.length := by rw [hl]; exact idx_lt vs p
  refine ⟨idx vs p, h1, fun e => hp ?_⟩
  rw [idx_flip h _ hv]
  rw [get _ h1, get _ (by rw [hl] at h1 ⊢; exact Nat.xor_lt_two_pow h1 (Nat.pow_lt_pow_right (by decide) hj))] at e
  exact Option.some.inj e
theorem Right.of {vs : List Int} {tab : List Nat} (h4 : vs.length ≤ 4) (hl : tab.length = 2 ^ vs.length) (hu : Up vs) (hm : ∀ v ∈ vs, 0 ≤ v ∧ v < 34) (hd : ∀ v ∈ vs, dep (sem vs tab) v) : Right vs tab := by
 refine ⟨h4, hl, fun j hj => ⟨vs[j], List.getElem?_eq_getElem hj, (hm _ (List.getElem_mem hj)).1, (hm _ (List.getElem_mem hj)).2, ?_, (cnt_iff hu.nodup hl (List.getElem?_eq_getElem hj)).2 (hd _ (List.getElem_mem hj))⟩⟩
 intro u h0 hu'
 rw [List.getElem?_eq_getElem (by omega)] at hu'; cases hu'
 exact List.pairwise_iff_getElem.1 hu _ _ _ _ (by omega)
def ins (j m : Nat) : Nat := 2 ^ (j + 1) * (m / 2 ^ j) + m % 2 ^ j
def wordOf (f : Nat → Bool) : Nat → Nat
 | 0 => 0
 | k + 1 => wordOf f k + 2 ^ k * (f k).toNat
theorem wordOf_lt (f : Nat → Bool) : ∀ k, wordOf f k < 2 ^ k
 | 0 => by simp [wordOf]
 | k + 1 => by
  have := wordOf_lt f k
  simp only [wordOf, Nat.pow_succ]
  cases f k <;> simp <;> omega
theorem wordOf_bit (f : Nat → Bool) (i : Nat) : ∀ k, (wordOf f k).testBit i = (decide (i < k) && f i)
 | 0 => by simp [wordOf]
 | k + 1 => by
  rw [wordOf, Nat.add_comm, Nat.testBit_two_pow_mul_add _ (wordOf_lt f k)]
  by_cases h : i < k
  ·rw [if_pos h, wordOf_bit f i k]; simp [h, show i < k + 1 by omega]
  ·rw [if_neg h]
   by_cases h2 : i = k
   ·subst h2; simp
    cases f i <;> simp
   ·have h3 : ¬ i < k + 1 := by omega
    simp only [h3, decide_false, Bool.false_and]
    have : (f k).toNat < 2 ^ (i - k) := Nat.lt_of_lt_of_le (by cases f k <;> simp : (f k).toNat < 2 ^ 1) (Nat.pow_le_pow_right (by decide) (by omega))
    exact Nat.testBit_lt_two_pow this
theorem wordOf_ext {f g : Nat → Bool} : ∀ {k : Nat}, (∀ i, i < k → f i = g i) → wordOf f k = wordOf g k
 | 0, _ => rfl
 | k + 1, h => by rw [wordOf, wordOf, wordOf_ext fun i hi => h i (by omega), h k (by omega)]
theorem wordOf_self {w : Nat} (h : w < 2 ^ 32) : wordOf w.testBit 32 = w := by
 refine Nat.eq_of_testBit_eq fun i => ?_
 rw [wordOf_bit]
 by_cases hi : i < 32
 ·simp [hi]
 ·simp only [hi, decide_false, Bool.false_and]
  exact (Nat.testBit_lt_two_pow (Nat.lt_of_lt_of_le h (Nat.pow_le_pow_right (by decide) (by omega)))).symm
def val (vs : List Int) (tab : List Nat) (r : Int → Nat) : Nat := wordOf (fun i => (sem vs tab fun v => (r v).testBit i).testBit i) 32
end Go.Ev
/- What the functions of bits compute: the smaller ones. -/
namespace Go.Ev
open Go Go.RowKit
variable {G : Tbl}
set_option maxRecDepth 10000
set_option linter.unusedSimpArgs false
set_option linter.unusedVariables false
def doW (kind : Int) (a b : Nat) : Nat × Bool :=
 if kind = 4 then ((a + b) % 4294967296, true) else if kind = 20 then ((a + 4294967296 - b) % 4294967296, true) else if kind = 36 then (a * b % 4294967296, true)
 else if kind = 52 then (if b = 0 then (0, false) else (a / b, true)) else if kind = 68 then (a ||| b, true) else if kind = 84 then (a &&& b, true)
 else if kind = 100 then (a * 2 ^ (b % 32) % 4294967296, true) else if kind = 116 then (a / 2 ^ (b % 32), true) else if kind = 164 then (a ^^^ b, true) else (0, false)
theorem wrap32 (n : Int) : IntKind.u32.wrap n = n % 4294967296 := rfl
end Go.Ev
/- Lemmas that many texts use. -/
namespace Go.Ev
open Go Go.RowKit
variable {G : Tbl}
set_option maxRecDepth 10000
set_option linter.unusedSimpArgs false
set_option linter.unusedVariables false
def HShut (H : Heap) : Prop := ∀ m, H.length ≤ m → H.map (Option.map (Blk.cl m)) = H
theorem shut_trunc {H : Heap} (h : HShut H) (r : Heap) (n : Nat) : trunc (H.length + n) (H ++ r) = H ++ (r.take n).map (Option.map (Blk.cl (H.length + n))) := by
 unfold trunc
 rw [List.take_append, List.map_append]
 congr 1
 ·rw [List.take_of_length_le (by omega)]; exact h _ (by omega)
 ·congr 2; omega
theorem callK_of {ro : Bool} {f : Nat} {args : List V} {r : V} {H H1 : Heap} {K : List Kt} {e : Env} {Q : Ex → Env → Heap → Prop} {base : Nat} {d : Option Nat} {os : List SOper} (h : Big G (.F f args H r H1)) (hro : ro = true → base ≤ H.length ∧ H1.take H.length = H)
  (hr : WO G base os K (e.put d r) H1 Q) : callK G ro f args base d os K e H Q := ⟨r, H1, h, hro, hr⟩
def negW (a : Nat) : Nat := (4294967296 - a) % 4294967296
theorem doW32 (kind : Int) {a b : Nat} (ha : a < 4294967296) (hb : b < 4294967296) : (doW kind a b).1 < 4294967296 := by
 have h1 := Nat.or_lt_two_pow (n := 32) ha hb
 have h2 := Nat.and_lt_two_pow (n := 32) a hb
 have h3 := Nat.xor_lt_two_pow (n := 32) ha hb
 have h4 : a / b ≤ a := Nat.div_le_self _ _
 have h5 : a / 2 ^ (b % 32) ≤ a := Nat.div_le_self _ _
 unfold doW
 repeat' split
 all_goals first
  | (simp only; omega)
  | (simp only; exact Nat.mod_lt _ (by decide))
def bools (l : List Bool) : List (List V) := l.map fun b => [.bool b]
@[simp] theorem bools_length (l : List Bool) : (bools l).length = l.length := by simp [bools]
@[simp] theorem bools_get (l : List Bool) (i : Nat) : (bools l)[i]? = (l[i]?).map fun b => [.bool b] := by simp [bools]
@[simp] theorem bools_nil : bools [] = [] := rfl
@[simp] theorem bools_snoc (l : List Bool) (x : Bool) : bools l ++ [[.bool x]] = bools (l ++ [x]) := by simp [bools]
@[simp] theorem bools_sz (l : List Bool) : (∀ f ∈ bools l, f.length = 1) = True := by
 simp only [eq_iff_iff, iff_true]
 intro f hf
 simp only [bools, List.mem_map] at hf
 obtain ⟨x, _, rfl⟩ := hf
 rfl
end Go.Ev
/- A nil book: the law SymNil. -/
namespace Go.Ev
open Go Go.RowKit
variable {G : Tbl}
set_option maxRecDepth 10000
set_option maxHeartbeats 4000000
set_option linter.unusedSimpArgs false
set_option linter.unusedVariables false
theorem HShut.self {H : Heap} (h : HShut H) : trunc H.length H = H := by
 have := shut_trunc h [] 0
 simpa using this
theorem HShut.back {H : Heap} (h : HShut H) (r : Heap) : trunc H.length (H ++ r) = H := by
 have := shut_trunc h r 0
 simpa using this
theorem HShut.app {H : Heap} (h : HShut H) {r : Heap} (hr : ∀ n, r.map (Option.map (Blk.cl n)) = r) : HShut (H ++ r) := by
 intro m hm
 rw [List.map_append, hr, h m (by rw [List.length_append] at hm; omega)]
theorem HShut.nil : HShut [] := fun _ _ => rfl
structure Nd where
 kind : Nat
 f : List Nat
 n : Nat
 vars : List Nat
 tab : List Nat
 op : Int
 x : Nat
 y : Nat
 deriving DecidableEq
def Nd.cs (a : Nd) : List V := .int .i64 (a.kind : Int) :: (cnats .u32 a.f ++ .int .i64 (a.n : Int) :: (cnats .i64 a.vars ++ (cnats .u32 a.tab ++ [.int .i64 a.op, .int .i64 (a.x : Int), .int .i64 (a.y : Int)])))
def Nd0 : Nd := ⟨0, zeros 35, 0, zeros 4, zeros 16, 0, 0, 0⟩
theorem nz : (V.int .i64 0 :: (cnats .u32 (zeros 35) ++ V.int .i64 0 :: V.int .i64 0 :: V.int .i64 0 :: V.int .i64 0 :: V.int .i64 0 :: (cnats .u32 (zeros 16) ++ [V.int .i64 0, V.int .i64 0, V.int .i64 0]))) = Nd0.cs := rfl
def Nd.ok (a : Nd) : Prop := a.f.length = 35 ∧ a.vars.length = 4 ∧ a.tab.length = 16
theorem Nd.len {a : Nd} (h : a.ok) : a.cs.length = 60 := by simp [Nd.cs, h.1, h.2.1, h.2.2]
def sumNd (f : List Nat) : Nd := { Nd0 with f := f }
def varL (i : Nat) : List Nat := (zeros 35).set (i + 1) 1
end Go.Ev
/- A book in memory: its values, and their numbers. -/
namespace Go.Ev
open Go Go.RowKit
variable {G : Tbl}
set_option maxRecDepth 10000
set_option maxHeartbeats 4000000
set_option linter.unusedSimpArgs false
set_option linter.unusedVariables false
def entsF (i : Nat) : List Nd → List (V × V)
 | [] => []
 | a :: L => (.agg a.cs, .int .i64 (i : Int)) :: entsF (i + 1) L
def ents (L : List Nd) : List (V × V) := entsF 0 L
def nds (L : List Nd) : List (List V) := L.map Nd.cs
def bookC (L : List Nd) (z m : Nat) : Blk := .cells [.vs (nds L) (.own z), .mp m]
structure Bk (H : Heap) (b z m : Nat) (L : List Nd) : Prop where
 hb : H[b]? = some (some (bookC L z m))
 hz : H[z]? = some (some (.zone L.length))
 hm : H[m]? = some (some (.map (ents L)))
 shut : HShut H
 ok : ∀ a ∈ L, a.ok
 small : L.length ≤ 1000000
def upd (H : Heap) (b z m : Nat) (L : List Nd) : Heap := ((H.set b (some (bookC L z m))).set z (some (.zone L.length))).set m (some (.map (ents L)))
theorem upd_len (H : Heap) (b z m : Nat) (L : List Nd) : (upd H b z m L).length = H.length := by simp [upd]
section
variable {H : Heap} {b z m : Nat} {L L' : List Nd}
theorem Bk.bz (h : Bk H b z m L) : b ≠ z := fun e => by have h1 := h.hb; rw [e, h.hz] at h1; simp [bookC] at h1
theorem Bk.bm (h : Bk H b z m L) : b ≠ m := fun e => by have h1 := h.hb; rw [e, h.hm] at h1; simp [bookC] at h1
theorem Bk.zm (h : Bk H b z m L) : z ≠ m := fun e => by have h1 := h.hz; rw [e, h.hm] at h1; simp at h1
theorem Bk.lb (h : Bk H b z m L) : b < H.length := (List.getElem?_eq_some_iff.1 h.hb).1
theorem Bk.lz (h : Bk H b z m L) : z < H.length := (List.getElem?_eq_some_iff.1 h.hz).1
theorem Bk.lm (h : Bk H b z m L) : m < H.length := (List.getElem?_eq_some_iff.1 h.hm).1
theorem ents_cl (n : Nat) : ∀ (L : List Nd) (i : Nat), (entsF i L).map (fun p => (p.1.cl n, p.2.cl n)) = entsF i L
 | [], i => rfl
 | a :: L, i => by
  have ih := ents_cl n L (i + 1)
  have hc : clL n a.cs = a.cs := by rw [clL_eq_map]; simp [Nd.cs, cnats, Function.comp_def, V.cl]
  simp only [entsF, List.map_cons, V.cl, hc, ih]
theorem map_set' {α β : Type} (f : α → β) : ∀ (l : List α) (i : Nat) (a : α), (l.set i a).map f = (l.map f).set i (f a) := fun l i a => List.map_set
theorem Bk.upd_shut (h : Bk H b z m L) (L' : List Nd) : HShut (upd H b z m L') := by
 intro n hn
 rw [upd_len] at hn
 have h1 := h.shut n hn
 have hz := h.lz
 have hm := h.lm
 unfold upd
 rw [map_set', map_set', map_set', h1]
 have c1 : Option.map (Blk.cl n) (some (bookC L' z m)) = some (bookC L' z m) := by
  simp [bookC, Blk.cl, clL, V.cl, Tk.cl, show z < n from by omega, show m < n from by omega]
 have c2 : Option.map (Blk.cl n) (some (Blk.zone L'.length)) = some (.zone L'.length) := rfl
 have c3 : Option.map (Blk.cl n) (some (Blk.map (ents L'))) = some (.map (ents L')) := by
  simp only [Option.map_some, Blk.cl, ents, ents_cl]
 rw [c1, c2, c3]
theorem Bk.upd_bk (h : Bk H b z m L) (hok : ∀ a ∈ L', a.ok) (hs : L'.length ≤ 1000000) : Bk (upd H b z m L') b z m L' := by
 have h1 := h.bz
 have h2 := h.bm
 have h3 := h.zm
 refine ⟨?_, ?_, ?_, h.upd_shut L', hok, hs⟩
 ·unfold upd
  rw [List.getElem?_set_ne h2.symm, List.getElem?_set_ne h1.symm, List.getElem?_set_self h.lb]
 ·unfold upd
  rw [List.getElem?_set_ne h3.symm, List.getElem?_set_self (by simp [h.lz])]
 ·unfold upd
  rw [List.getElem?_set_self (by simp [h.lm])]
theorem Bk.app (h : Bk H b z m L) {r : Heap} (hr : ∀ n, r.map (Option.map (Blk.cl n)) = r) : Bk (H ++ r) b z m L :=
 ⟨by rw [List.getElem?_append_left h.lb]; exact h.hb, by rw [List.getElem?_append_left h.lz]; exact h.hz, by rw [List.getElem?_append_left h.lm]; exact h.hm, h.shut.app hr, h.ok, h.small⟩
end
def insN (L : List Nd) (a : Nd) : List Nd := if a ∈ L then L else L ++ [a]
theorem idxOf_out {L : List Nd} {a : Nd} (h : a ∉ L) : L.idxOf a = L.length := List.idxOf_eq_length h
end Go.Ev
/- The smaller functions of a book. -/
namespace Go.Ev
open Go Go.RowKit
variable {G : Tbl}
set_option maxRecDepth 10000
set_option maxHeartbeats 4000000
set_option linter.unusedSimpArgs false
set_option linter.unusedVariables false
variable {H : Heap} {b z m : Nat} {L : List Nd}
def QX (res : List ResV) (R : V → Heap → Prop) (x : Ex) (e1 : Env) (H1 : Heap) : Prop := (x = .nx ∨ x = .ret) ∧ ∃ vs, evRess e1 H1 res = some vs ∧ R (resOf vs) H1
@[simp] theorem QX_nx (res : List ResV) (R : V → Heap → Prop) (e1 : Env) (H1 : Heap) : QX res R .nx e1 H1 = ∃ vs, evRess e1 H1 res = some vs ∧ R (resOf vs) H1 := by simp [QX]
@[simp] theorem QX_ret (res : List ResV) (R : V → Heap → Prop) (e1 : Env) (H1 : Heap) : QX res R .ret e1 H1 = ∃ vs, evRess e1 H1 res = some vs ∧ R (resOf vs) H1 := by simp [QX]
def SF (G : Tbl) (f : Nat) (args : List V) (H : Heap) (r : V) (H' : Heap) : Prop := ∃ r1 H1, Big G (.F f args H r1 H1) ∧ r1.cl H.length = r ∧ trunc H.length H1 = H'
theorem SF_of {f nt : Nat} {body : SCode} {res : List ResV} {args : List V} {r : V} {H H' : Heap} (hg : G f = some ⟨nt, body, res⟩) (hl : args.length ≤ nt)
  (h : W G body [] (mkE (idxE 0 args)) H (QX res fun r1 H1 => r1.cl H.length = r ∧ trunc H.length H1 = H')) : SF G f args H r H' := by
 obtain ⟨x, e1, H1, hb, hx, vs, hvs, hr, ht⟩ := h
 rw [← envOf_eq] at hb
 exact ⟨_, _, .fn hg hl hb hx hvs, hr, ht⟩
theorem callSF_of {f : Nat} {args : List V} {r : V} {H H' : Heap} {base : Nat} {d : Option Nat} {os : List SOper} {K : List Kt} {e : Env} {Q : Ex → Env → Heap → Prop} (h : SF G f args H r H')
  (hr : WO G base os K (e.put d r) H' Q) : callS G f args base d os K e H Q := by
 obtain ⟨r1, H1, hb, hr1, ht⟩ := h
 refine callS_of hb ?_
 rw [hr1, ht]
 exact hr
theorem Bk.back (h : Bk H b z m L) (L' : List Nd) (r : Heap) : trunc H.length (upd H b z m L' ++ r) = upd H b z m L' := by
 have := (h.upd_shut L').back r
 rwa [upd_len] at this
@[simp] theorem nds_length (L : List Nd) : (nds L).length = L.length := by simp [nds]
theorem Bk.hb' (h : Bk H b z m L) : H[b]? = some (some (.cells [.vs (nds L) (.own z), .mp m])) := h.hb
def hasI (L : List Nd) (i : Int) : Bool := decide (0 ≤ i ∧ i < (L.length : Int))
end Go.Ev
/- Sums of multiples. -/
namespace Go.Ev
open Go Go.RowKit
variable {G : Tbl}
set_option maxRecDepth 10000
set_option maxHeartbeats 4000000
set_option linter.unusedSimpArgs false
set_option linter.unusedVariables false
section
variable {o : Nat → Nat → Nat} {f g : List Nat} {i n : Nat}
end
theorem cnats_q {l : List Nat} {i x : Nat} (k : IntKind) (h : l[i]? = some x) : ((cnats k l).drop i).take 1 = [.int k (x : Int)] := by
 obtain ⟨h1, rfl⟩ := List.getElem?_eq_some_iff.1 h
 exact cnats_get k l i h1
section
variable {α : Type} (H l : List α)
end
def fAdd (f g : List Nat) : List Nat := List.zipWith (fun a b => (a + b) % 4294967296) f g
def fSub (f g : List Nat) : List Nat := List.zipWith (fun a b => (a + 4294967296 - b) % 4294967296) f g
def fMul (f : List Nat) (k : Nat) : List Nat := f.map fun a => a * k % 4294967296
def fConst (f : List Nat) : Option Nat := if f.drop 1 = zeros 34 then f.head? else none
def fSum (f v : List Nat) (i : Nat) : Nat := ((List.zipWith (· * ·) (f.drop 1) v).take i).sum
def fEval (f v : List Nat) : Nat := (f.headD 0 + fSum f v 34) % 4294967296
theorem fEval_ok [HasAffine G] (f v : List Nat) (hf : f.length = 35) (hv : v.length = 34) (hfw : ∀ x ∈ f, x < 4294967296) : FP G 252 [.agg (cnats .u32 f), .agg (cnats .u32 v)] (.int .u32 (fEval f v : Nat)) := by
 refine FP_of HasAffine.h_affine_Eval (Nat.le_of_ble_eq_true rfl) ?_
 obtain ⟨c, t, rfl⟩ : ∃ c t, f = c :: t := by cases f with | nil => simp at hf | cons c t => exact ⟨c, t, rfl⟩
 have ht : t.length = 34 := by simpa using hf
 have hc : cnats .u32 (c :: t) = .int .u32 (c : Int) :: cnats .u32 t := rfl
 have htt := take_full (k := .u32) ht
 have htv := take_full (k := .u32) hv
 have hcw : c < 4294967296 := hfw c (by simp)
 simp [hc, ht, htt, hv, htv]
 obtain ⟨S, hS⟩ : ∃ S : Nat → Nat, ∀ i, S i = (c + fSum (c :: t) v i) % 4294967296 := ⟨_, fun _ => rfl⟩
 have S0 : S 0 = c := by rw [hS]; simp [fSum]; omega
 have S34 : S 34 = fEval (c :: t) v := by rw [hS]; rfl
 have Ss : ∀ (i : Nat) (h : i < 34), (S i + (t[i]'(by omega)) * (v[i]'(by omega))) % 4294967296 = S (i + 1) := fun i h => by
  rw [hS, hS, fSum, fSum, List.take_add_one, List.getElem?_eq_getElem (by simp; omega)]
  simp
  omega
 refine W_up 34 (fun i => [(3, .ptr 1 0), (5, .int .u32 (S i : Nat)), (11, .agg (cnats .u32 t)), (12, .int .i64 i)]) (fun _ => [some (.cells (.int .u32 (c : Int) :: cnats .u32 t)), some (.cells (cnats .u32 v))]) (fun _ => True) ?_ ?_
 ·simp [keep_cl, S0, trunc, clL, V.cl]
 intro i hi _
 by_cases hlt : i < 34
 ·have q1 := cnats_q .u32 (get_in (show i < t.length by omega))
  have q2 := cnats_q .u32 (get_in (show i < v.length by omega))
  have m : addI .u32 (S i : Int) (mulI .u32 (t[i] : Nat) (v[i] : Nat)) = ((S (i + 1) : Nat) : Int) := by
   rw [← Ss i hlt]; simp [addI, mulI, wrap32]
  simp (disch := omega) [ltT, ltF, leF, leFn, leTn, hlt, ht, hv, q1, q2, m, -Int.natCast_add, add1', keep_cl, trunc, clL, V.cl]
 ·have hi34 : i = 34 := by omega
  subst hi34
  simp [S34]
def fOne (f : List Nat) : Option Nat := (List.range 34).find? fun i => decide (f = varL i)
end Go.Ev
/- Runs that can be computed, where some calls' answers are known. -/
namespace Go.Ev
open Go Go.RowKit
variable {G : Tbl}
set_option linter.unusedSimpArgs false
set_option linter.unusedVariables false
def execSO (G : Tbl) (orc : Nat → List V → Option V) (ex : In → Option Out) (i : In) : Option Out := match i with
 | .S base o e H => match o.op with
  | .pcall f xs => match wanted e o with
   | some true => match orc f (outL (xs.map (X.ev e))) with
    | some r => some (.E (e.put o.dst r) H)
    | none => execS G ex i
   | _ => execS G ex i
  | _ => execS G ex i
 | _ => execS G ex i
def execO (G : Tbl) (orc : Nat → List V → Option V) : Nat → In → Option Out
 | 0, _ => none
 | k + 1, i => execSO G orc (execO G orc k) i
theorem execO_sound {orc : Nat → List V → Option V} (horc : ∀ f args r, orc f args = some r → FP G f args r) : ∀ (k : Nat) (i : In) (o : Out), execO G orc k i = some o → IsRun G i o
 | 0, _, _, h => by simp [execO] at h
 | k + 1, i, o, h => by
  have ih := execO_sound horc k
  simp only [execO, execSO] at h
  split at h
  ·split at h
   ·rename_i f xs hop
    split at h
    ·rename_i hw
     split at h
     ·rename_i r hr
      cases h
      obtain ⟨r', H', hb, he⟩ := horc _ _ _ hr
      subst he
      exact Big.pcall hw hop hb
     ·exact execS_sound ih _ _ h
    ·exact execS_sound ih _ _ h
   ·exact execS_sound ih _ _ h
  ·exact execS_sound ih _ _ h
def orcI : Nat → List V → Option V
 | 139, [.int .i64 op] => some (ofV op)
 | 140, [.agg [.int .i64 op, .int .i64 jt, .int .i64 jf, .int .u32 (.ofNat k)]] => some (.bool (rightI ⟨op, jt, jf, k⟩))
 | 142, [.agg [.int .i64 op, .int .i64 jt, .int .i64 jf, .int .u32 (.ofNat k)]] => some (.bool (isBr op))
 | 143, [.agg [.int .i64 op, .int .i64 jt, .int .i64 jf, .int .u32 (.ofNat k)]] => some (.bool (isEnd op))
 | 141, [.agg [.int .i64 op, .int .i64 jt, .int .i64 jf, .int .u32 (.ofNat k)]] => some (.tup [.int .i64 (aluT op).1, .bool (aluT op).2.1, .bool (aluT op).2.2])
 | _, _ => none
theorem orcI_ok [HasIns G] {f : Nat} {args : List V} {r : V} (h : orcI f args = some r) : FP G f args r := by
 unfold orcI at h
 split at h
 ·cases h; exact of_ok _
 ·cases h; exact RightI_ok ⟨_, _, _, _⟩
 ·cases h; exact Branch_ok ⟨_, _, _, _⟩
 ·cases h; exact Ends_ok ⟨_, _, _, _⟩
 ·cases h; exact Alu_ok ⟨_, _, _, _⟩
 ·cases h
def natsU : List V → Option (List Nat)
 | [] => some []
 | .int .u32 (.ofNat n) :: l => match natsU l with
  | some r => some (n :: r)
  | none => none
 | _ => none
theorem natsU_ok : ∀ {l : List V} {ns : List Nat}, natsU l = some ns → l = cnats .u32 ns
 | [], ns, h => by simp only [natsU, Option.some.injEq] at h; subst h; rfl
 | v :: l, ns, h => by
  unfold natsU at h
  split at h
  ·rename_i he; cases he
  ·rename_i n l' he
   cases he
   split at h
   ·rename_i r hr
    cases h
    rw [natsU_ok hr]; rfl
   ·cases h
  ·cases h
def orcX (f : Nat) (args : List V) : Option V := match f, args with
 | 252, [.agg a, .agg b] => match natsU a, natsU b with
  | some x, some y => if (x.length == 35 && y.length == 34 && x.all (fun n => Nat.blt n 4294967296)) = true then some (.int .u32 (fEval x y : Nat)) else none
  | _, _ => none
 | f, args => orcI f args
theorem orcX_ok [HasIns G] [HasAffine G] {f : Nat} {args : List V} {r : V} (h : orcX f args = some r) : FP G f args r := by
 unfold orcX at h
 split at h
 ·split at h
  ·rename_i x y hx hy
   split at h
   ·rename_i hc
    cases h
    simp only [Bool.and_eq_true, beq_iff_eq, List.all_eq_true] at hc
    rw [natsU_ok hx, natsU_ok hy]
    exact fEval_ok x y hc.1.1 hc.1.2 (fun n hn => Nat.le_of_ble_eq_true (hc.2 n hn))
   ·cases h
  ·cases h
 ·exact orcI_ok h
structure Kn (G : Tbl) where
 f : Nat
 args : List V
 r : V
 ok : FP G f args r
def orcK (l : List (Kn G)) (f : Nat) (args : List V) : Option V := match l with
 | [] => orcX f args
 | k :: l => if k.f == f && veqL k.args args then some k.r else orcK l f args
theorem orcK_ok [HasIns G] [HasAffine G] {f : Nat} {args : List V} {r : V} : ∀ {l : List (Kn G)}, orcK l f args = some r → FP G f args r
 | [], h => orcX_ok h
 | k :: l, h => by
  unfold orcK at h
  split at h
  ·rename_i hc
   cases h
   simp only [Bool.and_eq_true, beq_iff_eq] at hc
   rw [← hc.1, ← veqL_eq hc.2]
   exact k.ok
  ·exact orcK_ok h
def isRunO (G : Tbl) (l : List (Kn G)) (k f : Nat) (args : List V) (r : V) : Bool :=
 match execO G (orcK l) k (.F f args []) with
 | some (.F r1 H1) => veq (frz H1 r1).out r
 | _ => false
theorem FP_runO [HasIns G] [HasAffine G] {l : List (Kn G)} {k f : Nat} {args : List V} {r : V} (h : isRunO G l k f args r = true) : FP G f args r := by
 unfold isRunO at h
 split at h
 ·rename_i r1 H1 hr
  exact ⟨_, _, execO_sound (fun _ _ _ h => orcK_ok h) k _ _ hr, veq_eq h⟩
 ·cases h
end Go.Ev
