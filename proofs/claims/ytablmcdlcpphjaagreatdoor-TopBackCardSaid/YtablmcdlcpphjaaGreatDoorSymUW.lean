/- Values as they were made, and in the book. -/
import Derived.Test.YtablmcdlcpphjaaGreatDoorTopFW
import Derived.Test.YtablmcdlcpphjaaGreatDoorEvInsCW
import Derived.Test.YtablmcdlcpphjaaGreatDoorBitsFW
import Derived.KernelRfl
import Derived.Test.YtablmcdlcpphjaaGreatDoorEvSrcCW
set_option linter.unusedVariables false
set_option linter.unusedSimpArgs false
namespace Go.Ev
open Go Go.RowKit
set_option maxRecDepth 10000
set_option maxHeartbeats 4000000
set_option linter.unusedSimpArgs false
set_option linter.unusedVariables false
variable {L L' : List Nd} {v : List Nat}
structure MI (v : List Nat) (s : MS) : Prop where
 inv : Inv s.L
 len : s.ids.length = s.made.length
 ok : mdOk s.made
 rel : ∀ (i : Nat) (x : Int) (a : Md) (o : Option Nat), s.ids[i]? = some x → s.made[i]? = some a → (refs v s.made)[i]? = some o →
  a.kind = 4 ∧ x = -1 ∧ o = none ∨ a.kind ≠ 4 ∧ ∃ n : Nat, x = n ∧ n < s.L.length ∧ valI v s.L n = o
theorem MI.there {s : MS} (h : MI v s) {x : Int} (hx : thereB s.made x = true) : ∃ n m : Nat, x = n ∧ n < s.made.length ∧ atI s.ids x = m ∧ m < s.L.length ∧ valI v s.L m = (refs v s.made)[n]?.join := by
 simp only [thereB, Bool.and_eq_true, decide_eq_true_eq] at hx
 obtain ⟨⟨h0, h1⟩, h2⟩ := hx
 obtain ⟨n, rfl⟩ := Int.eq_ofNat_of_zero_le h0
 have hn : n < s.made.length := by omega
 obtain ⟨a, ha⟩ : ∃ a, s.made[n]? = some a := ⟨_, get_in hn⟩
 obtain ⟨y, hy⟩ : ∃ y, s.ids[n]? = some y := ⟨_, get_in (by rw [h.len]; exact hn)⟩
 obtain ⟨o, ho⟩ : ∃ o, (refs v s.made)[n]? = some o := ⟨_, get_in (by rw [refs_len]; exact hn)⟩
 rw [Int.toNat_natCast, ha] at h2
 simp at h2
 rcases h.rel n y a o hy ha ho with ⟨h4, _⟩ | ⟨_, m, hm, hml, hv⟩
 ·exact absurd h4 h2
 ·refine ⟨n, m, rfl, hn, ?_, hml, ?_⟩
  ·rw [atI, if_pos ⟨h0, by rw [h.len]; exact h1⟩, Int.toNat_natCast, hy, hm]; rfl
  ·rw [hv, ho]; rfl
theorem MI.not_there {s : MS} (h : MI v s) {x : Int} (hx : thereB s.made x = false) : hasI s.L (atI s.ids x) = false := by
 rw [atI]
 split
 ·rename_i hr
  obtain ⟨n, rfl⟩ := Int.eq_ofNat_of_zero_le hr.1
  have hn : n < s.made.length := by rw [← h.len]; omega
  obtain ⟨a, ha⟩ : ∃ a, s.made[n]? = some a := ⟨_, get_in hn⟩
  obtain ⟨y, hy⟩ : ∃ y, s.ids[n]? = some y := ⟨_, get_in (by rw [h.len]; exact hn)⟩
  obtain ⟨o, ho⟩ : ∃ o, (refs v s.made)[n]? = some o := ⟨_, get_in (by rw [refs_len]; exact hn)⟩
  have h4 : a.kind = 4 := by
   have : a.kind ≠ 4 → thereB s.made n = true := fun hk => by simp only [thereB, Int.toNat_natCast, ha]; simp [hk, hn]
   by_cases hk : a.kind = 4
   ·exact hk
   ·rw [this hk] at hx; cases hx
  rcases h.rel n y a o hy ha ho with ⟨_, h5, _⟩ | ⟨h5, _⟩
  ·rw [Int.toNat_natCast, hy, h5]; rfl
  ·exact absurd h4 h5
 ·rfl
theorem bAlu_no {kind x y : Int} (h : ¬ ((doW kind 0 1).2 = true ∧ hasI L x = true ∧ hasI L y = true)) : bAlu L kind x y = (-1, L) := by rw [bAlu, if_neg h]
theorem MI.step {s : MS} (h : MI v s) (hv : v.length = 34) (hvw : ∀ c ∈ v, c < 4294967296) {a : Md} (hc : a.c < 4294967296) : MI v (makeS s a) := by
 have e := make_ext (s := s) (a := a) h.inv hc
 have hln := h.len
 have rl := refs_len (v := v) s.made
 -- it is enough to look at the new one
 have main : ∀ o : Option Nat, rval v (refs v s.made) (nextM s.made a) = o →
   ((nextM s.made a).kind = 4 ∧ (makeR s a).1 = -1 ∧ o = none ∨ (nextM s.made a).kind ≠ 4 ∧ Res v (makeR s a) o) →
   ((nextM s.made a).c < 4294967296 ∧ ((nextM s.made a).kind = 0 ∨ (nextM s.made a).kind = 1 ∧ 0 ≤ (nextM s.made a).i ∧ (nextM s.made a).i < 34 ∨ (nextM s.made a).kind = 2 ∧ 0 ≤ (nextM s.made a).x ∧ (nextM s.made a).x < s.made.length ∧ 0 ≤ (nextM s.made a).y ∧ (nextM s.made a).y < s.made.length ∨ (nextM s.made a).kind = 3 ∧ 0 ≤ (nextM s.made a).x ∧ (nextM s.made a).x < s.made.length ∨ (nextM s.made a).kind = 4)) →
   MI v (makeS s a) := fun o ho hr hm => by
  refine ⟨e.inv, by simp [makeS, hln], fun i b hb => ?_, fun i x b w hx hb hw => ?_⟩
  ·simp only [makeS] at hb
   by_cases hi : i < s.made.length
   ·rw [List.getElem?_append_left hi] at hb
    exact h.ok i b hb
   ·have hl := (List.getElem?_eq_some_iff.1 hb).1
    simp at hl
    obtain rfl : i = s.made.length := by omega
    simp at hb
    subst hb
    exact hm
  ·simp only [makeS] at hx hb hw ⊢
   rw [refs_snoc, ho] at hw
   by_cases hi : i < s.made.length
   ·rw [List.getElem?_append_left hi] at hb
    rw [List.getElem?_append_left (by omega)] at hx
    rw [List.getElem?_append_left (by omega)] at hw
    rcases h.rel i x b w hx hb hw with h1 | ⟨h1, n, h2, h3, h4⟩
    ·exact .inl h1
    ·exact .inr ⟨h1, n, h2, Nat.lt_of_lt_of_le h3 e.pre.length_le, by rw [← h4]; exact valI_ext e h3⟩
   ·have hl := (List.getElem?_eq_some_iff.1 hb).1
    simp at hl
    obtain rfl : i = s.made.length := by omega
    simp at hb
    rw [List.getElem?_append_right (by omega), hln, Nat.sub_self] at hx
    rw [List.getElem?_append_right (by omega), rl, Nat.sub_self] at hw
    simp at hx hw
    subst hb; subst hx; subst hw
    rcases hr with h1 | ⟨h1, n, h2, h3, h4⟩
    ·exact .inl h1
    ·exact .inr ⟨h1, n, h2, h3, h4⟩
 have none4 : nextM s.made a = noMd → (makeR s a).1 = -1 → MI v (makeS s a) := fun h1 h2 => by
  refine main none (by rw [h1]; rfl) (.inl ⟨by rw [h1]; rfl, h2, rfl⟩) ⟨by rw [h1]; exact (by decide : (0 : Nat) < 4294967296), by rw [h1]; exact .inr (.inr (.inr (.inr rfl)))⟩
 by_cases k0 : a.kind = 0
 ·have hn : nextM s.made a = ⟨0, 0, 0, 0, 0, a.c⟩ := by rw [nextM, if_pos k0]
  have hR : makeR s a = putN s.L (sumNd (a.c :: zeros 34)) := by rw [makeR, if_pos k0]
  refine main (some a.c) (by rw [hn]; rfl) (.inr ⟨by rw [hn]; simp, by rw [hR]; exact const_res h.inv hv hc⟩) ⟨by rw [hn]; exact hc, by rw [hn]; exact .inl rfl⟩
 by_cases k1 : a.kind = 1
 ·have hR : makeR s a = varN s.L a.i := by rw [makeR, if_neg k0, if_pos k1]
  by_cases hi : 0 ≤ a.i ∧ a.i < 34
  ·have hn : nextM s.made a = ⟨1, a.i, 0, 0, 0, 0⟩ := by rw [nextM, if_neg k0, if_pos ⟨k1, hi⟩]
   refine main (some (v[a.i.toNat]?.getD 0)) (by rw [hn]; rfl) (.inr ⟨by rw [hn]; simp, by rw [hR]; exact var_res h.inv hv hvw hi.1 hi.2⟩) ⟨by rw [hn]; exact (by decide : (0 : Nat) < 4294967296), by rw [hn]; exact .inr (.inl ⟨rfl, hi⟩)⟩
  ·refine none4 ?_ (by rw [hR, varN, if_neg hi])
   rw [nextM, if_neg k0, if_neg (fun hh => hi hh.2), if_neg (by omega), if_neg (by omega)]
 by_cases k2 : a.kind = 2
 ·have hR : makeR s a = bAlu s.L a.op (atI s.ids a.x) (atI s.ids a.y) := by rw [makeR, if_neg k0, if_neg k1, if_pos k2]
  by_cases hall : (doW a.op 0 1).2 = true ∧ thereB s.made a.x = true ∧ thereB s.made a.y = true
  ·obtain ⟨hk, hx, hy⟩ := hall
   have hn : nextM s.made a = ⟨2, 0, a.op, a.x, a.y, 0⟩ := by rw [nextM, if_neg k0, if_neg (fun hh => k1 hh.1), if_pos ⟨k2, hk, hx, hy⟩]
   obtain ⟨nx, mx, ex, lx, ax, bx, vx⟩ := h.there hx
   obtain ⟨ny, my, ey, ly, ay, b_y, vy⟩ := h.there hy
   have r := alu_res (v := v) (kind := a.op) (x := atI s.ids a.x) (y := atI s.ids a.y) h.inv hv hvw hk (by rw [ax]; simp [hasI]; exact bx) (by rw [ay]; simp [hasI]; exact b_y)
   rw [ax, ay, vx, vy] at r
   refine main (aluV a.op (refs v s.made)[nx]?.join (refs v s.made)[ny]?.join) ?_ (.inr ⟨by rw [hn]; simp, by rw [hR, ax, ay]; exact r⟩) ⟨by rw [hn]; exact (by decide : (0 : Nat) < 4294967296), by rw [hn]; exact .inr (.inr (.inl ⟨rfl, by simp; omega, by simp; omega, by simp; omega, by simp; omega⟩))⟩
   rw [hn, ex, ey]; rfl
  ·refine none4 ?_ ?_
   ·rw [nextM, if_neg k0, if_neg (fun hh => k1 hh.1), if_neg (fun hh => hall hh.2), if_neg (by omega)]
   ·rw [hR, bAlu_no]
    rintro ⟨g1, g2, g3⟩
    refine hall ⟨g1, ?_, ?_⟩
    ·cases e : thereB s.made a.x with
     | true => rfl
     | false => rw [h.not_there e] at g2; cases g2
    ·cases e : thereB s.made a.y with
     | true => rfl
     | false => rw [h.not_there e] at g3; cases g3
 by_cases k3 : a.kind = 3
 ·have hR : makeR s a = bNeg s.L (atI s.ids a.x) := by rw [makeR, if_neg k0, if_neg k1, if_neg k2, if_pos k3]
  cases hx : thereB s.made a.x with
  | true =>
   have hn : nextM s.made a = ⟨3, 0, 0, a.x, 0, 0⟩ := by rw [nextM, if_neg k0, if_neg (fun hh => k1 hh.1), if_neg (fun hh => k2 hh.1), if_pos ⟨k3, hx⟩]
   obtain ⟨nx, mx, ex, lx, ax, bx, vx⟩ := h.there hx
   have r := neg_res (v := v) (x := atI s.ids a.x) h.inv hv hvw (by rw [ax]; simp [hasI]; exact bx)
   rw [ax, vx] at r
   refine main (((refs v s.made)[nx]?.join).map negW) ?_ (.inr ⟨by rw [hn]; simp, by rw [hR, ax]; exact r⟩) ⟨by rw [hn]; exact (by decide : (0 : Nat) < 4294967296), by rw [hn]; exact .inr (.inr (.inr (.inl ⟨rfl, by simp; omega, by simp; omega⟩)))⟩
   rw [hn, ex]; rfl
  | false =>
   refine none4 ?_ ?_
   ·rw [nextM, if_neg k0, if_neg (fun hh => k1 hh.1), if_neg (fun hh => k2 hh.1), if_neg (by simp [hx])]
   ·rw [hR, bNeg, if_neg (by simp [h.not_there hx])]
 ·refine none4 ?_ ?_
  ·rw [nextM, if_neg k0, if_neg (fun hh => k1 hh.1), if_neg (fun hh => k2 hh.1), if_neg (fun hh => k3 hh.1)]
  ·rw [makeR, if_neg k0, if_neg k1, if_neg k2, if_neg k3]
theorem MI.zero : MI v ⟨[], [], []⟩ := ⟨Inv.nil, rfl, fun i a h => by simp at h, fun i x a o h => by simp at h⟩
theorem MI.all (hv : v.length = 34) (hvw : ∀ c ∈ v, c < 4294967296) : ∀ (l : List Md) {s : MS}, MI v s → (∀ a ∈ l, a.c < 4294967296) → MI v (makeAll s l)
 | [], _, h, _ => h
 | a :: l, s, h, hc => MI.all hv hvw l (h.step hv hvw (hc a (by simp))) fun x hx => hc x (by simp [hx])
end Go.Ev
/- Values of sums and of bits are told apart wherever they are not one: plain laws. -/
namespace Go.Ev
open Go Go.RowKit
set_option maxRecDepth 10000
set_option maxHeartbeats 4000000
set_option linter.unusedSimpArgs false
set_option linter.unusedVariables false
variable {L L' L'' : List Nd}
def Nd.pl (a : Nd) : Prop := (a.kind = 0 → a = sumNd a.f) ∧ (a.kind = 1 → ∃ fv ft, a = bitNd fv ft ∧ Right fv ft ∧ fv ≠ [] ∧ ∀ i, fv = [i] → ft ≠ [0, ones] ∧ ft ≠ [ones, 0])
def Grow (L L' : List Nd) : Prop := ∀ a ∈ L', a ∈ L ∨ a.pl
theorem Grow.refl : Grow L L := fun a h => .inl h
theorem Grow.trans (h : Grow L L') (k : Grow L' L'') : Grow L L'' := fun a ha => by
 rcases k a ha with h1 | h1
 ·exact h a h1
 ·exact .inr h1
def Pl (L : List Nd) : Prop := ∀ a ∈ L, a.pl
theorem Pl.nil : Pl [] := fun a h => by cases h
theorem Pl.grow (h : Pl L) (g : Grow L L') : Pl L' := fun a ha => by
 rcases g a ha with h1 | h1
 ·exact h a h1
 ·exact h1
theorem Inv.inj (h : Inv L) {x y : Nat} {a : Nd} (hx : L[x]? = some a) (hy : L[y]? = some a) : x = y := by
 obtain ⟨h1, e1⟩ := List.getElem?_eq_some_iff.1 hx
 obtain ⟨h2, e2⟩ := List.getElem?_eq_some_iff.1 hy
 have hp := List.pairwise_iff_getElem.1 h.one
 rcases Nat.lt_trichotomy x y with hl | hl | hl
 ·exact absurd (e1.trans e2.symm) (hp x y h1 h2 hl)
 ·exact hl
 ·exact absurd (e2.trans e1.symm) (hp y x h2 h1 hl)
/-! Which numbers are sums, and which are bits of some variables. -/
def IsSum (L : List Nd) (x : Int) : Prop := ∃ (n : Nat) (a : Nd), x = n ∧ L[n]? = some a ∧ a.kind = 0
def IsBit (L : List Nd) (x : Int) (P : Int → Prop) : Prop := ∃ (n : Nat) (a : Nd) (p : List Int × List Nat), x = n ∧ L[n]? = some a ∧ asB a = some p ∧ ∀ v ∈ p.1, P v
theorem IsSum.pre {x : Int} (h : IsSum L x) (e : L <+: L') : IsSum L' x := by obtain ⟨n, a, h1, h2, h3⟩ := h; exact ⟨n, a, h1, pre_get e h2, h3⟩
theorem IsBit.pre {x : Int} {P : Int → Prop} (h : IsBit L x P) (e : L <+: L') : IsBit L' x P := by obtain ⟨n, a, p, h1, h2, h3⟩ := h; exact ⟨n, a, p, h1, pre_get e h2, h3⟩
theorem IsBit.mono {x : Int} {P Q : Int → Prop} (h : IsBit L x P) (k : ∀ v, P v → Q v) : IsBit L x Q := by obtain ⟨n, a, p, h1, h2, h3, h4⟩ := h; exact ⟨n, a, p, h1, h2, h3, fun v hv => k v (h4 v hv)⟩
theorem IsSum.has {x : Int} (h : IsSum L x) : hasI L x = true := by obtain ⟨n, a, rfl, h2, _⟩ := h; simp [hasI]; exact (List.getElem?_eq_some_iff.1 h2).1
theorem IsBit.has {x : Int} {P : Int → Prop} (h : IsBit L x P) : hasI L x = true := by obtain ⟨n, a, p, rfl, h2, _⟩ := h; simp [hasI]; exact (List.getElem?_eq_some_iff.1 h2).1
end Go.Ev
/- What was made as a sum, or as bits, is one in the book. -/
namespace Go.Ev
open Go Go.RowKit
variable {G : Tbl}
set_option maxRecDepth 10000
set_option maxHeartbeats 4000000
set_option linter.unusedSimpArgs false
set_option linter.unusedVariables false
variable {L L' : List Nd} {l : List Md}
inductive How (s : MS) (a : Md) : Md → Int × List Nd → Prop
 | none {b p} : b.kind = 4 → How s a b p
 | con {b} : b.kind = 0 → b.c = a.c → How s a b (putN s.L (sumNd (a.c :: zeros 34)))
 | var {b} : b.kind = 1 → 0 ≤ b.i → b.i < 34 → How s a b (varN s.L b.i)
 | alu {b} : b.kind = 2 → (doW b.op 0 1).2 = true → thereB s.made b.x = true → thereB s.made b.y = true → How s a b (bAlu s.L b.op (atI s.ids b.x) (atI s.ids b.y))
 | neg {b} : b.kind = 3 → thereB s.made b.x = true → How s a b (bNeg s.L (atI s.ids b.x))
theorem IsSum.back {n : Nat} (h : IsSum L' n) (e : L <+: L') (hn : n < L.length) : IsSum L n := by
 obtain ⟨m, a, h1, h2, h3⟩ := h
 obtain rfl : n = m := by omega
 have := pre_get e (get_in hn)
 rw [h2] at this
 cases this
 exact ⟨n, _, rfl, get_in hn, h3⟩
theorem IsBit.back {n : Nat} {P : Int → Prop} (h : IsBit L' n P) (e : L <+: L') (hn : n < L.length) : IsBit L n P := by
 obtain ⟨m, a, p, h1, h2, h3⟩ := h
 obtain rfl : n = m := by omega
 have := pre_get e (get_in hn)
 rw [h2] at this
 cases this
 exact ⟨n, _, p, rfl, get_in hn, h3⟩
theorem ahead {s f : MS} {i : Nat} {x : Int} (hM : MI (zeros 34) s) (e1 : s.ids = f.ids.take i) (e2 : s.made = f.made.take i) (hx : thereB s.made x = true) :
  ∃ n m : Nat, ∃ c, x = n ∧ n < i ∧ f.made[n]? = some c ∧ c.kind ≠ 4 ∧ f.ids[n]? = some (m : Int) ∧ atI s.ids x = m ∧ m < s.L.length := by
 obtain ⟨n, m, h1, h2, h3, h4, _⟩ := hM.there hx
 have hni : n < i := by rw [e2, List.length_take] at h2; omega
 obtain ⟨c, hcc⟩ : ∃ c, s.made[n]? = some c := ⟨_, get_in h2⟩
 obtain ⟨y, hy⟩ : ∃ y, s.ids[n]? = some y := ⟨_, get_in (by rw [hM.len]; exact h2)⟩
 have hym : y = m := by
  rw [atI, h1, if_pos ⟨by omega, by rw [hM.len]; omega⟩, Int.toNat_natCast, hy] at h3
  exact h3
 subst h1
 refine ⟨n, m, c, rfl, hni, ?_, ?_, ?_, h3, h4⟩
 ·rw [e2, List.getElem?_take, if_pos hni] at hcc; exact hcc
 ·simp only [thereB, Int.toNat_natCast, hcc, Bool.and_eq_true, decide_eq_true_eq] at hx; exact hx.2
 ·rw [e1, List.getElem?_take, if_pos hni, hym] at hy; exact hy
end Go.Ev
/- One try of decide.Decide. -/
namespace Go.Ev
open Go Go.RowKit
variable {G : Tbl}
set_option maxRecDepth 10000
set_option maxHeartbeats 4000000
set_option linter.unusedSimpArgs false
set_option linter.unusedVariables false
def ansC (c : Int) : Option (List Nat) → List V
 | some r => .int .i64 c :: ((stO r).cs ++ (ofW (r.drop 18)).cs)
 | none => .int .i64 c :: (cnats .u32 (zeros 20) ++ cnats .u64 (zeros 7))
def tryAs : SCode := .region 1 [⟨some 13, .alloc 0 (cnats .u32 (zeros 34)), none⟩, ⟨none, .store 34 (.t 13) (.t 46), none⟩]
def tryBo : SCode := .block 1 (.seq (.region 2 [⟨some 48, .load 34 true false (.t 13), none⟩, ⟨some 49, .pcall 294 [.t 48], none⟩, ⟨some 47, .mv (.t 49), none⟩, ⟨some 50, .ext 0 (.t 47), none⟩, ⟨some 51, .ext 1 (.t 47), none⟩, ⟨some 14, .alloc 0 (cnats .u32 (zeros 18)), none⟩,
 ⟨some 15, .alloc 1 [.int .u32 0, .int .u32 0, .int .u64 0, .int .u64 0, .int .u64 0, .int .u64 0, .int .u64 0, .int .u64 0, .int .u64 0], none⟩, ⟨none, .store 18 (.t 14) (.t 50), none⟩, ⟨none, .store 9 (.t 15) (.t 51), none⟩])
 (.seq (.keep [3, 4, 5, 6, 7, 14, 15]) (.seq (.region 0 [⟨some 52, .load 1 false false (.t 3), none⟩, ⟨some 53, .load 1 false false (.t 4), none⟩, ⟨some 54, .load 1 false false (.t 5), none⟩, ⟨some 55, .load 18 true false (.t 14), none⟩, ⟨some 56, .load 9 true false (.t 15), none⟩,
  ⟨some 57, .pcall 308 [.t 52, .t 53, .t 54, .t 55, .t 56], none⟩]) (.seq (.keep [6, 7, 14, 15, 57]) (.cond (.t 57) (.seq (.region 0 [⟨some 58, .load 18 true false (.t 14), none⟩, ⟨some 59, .load 9 true false (.t 15), none⟩,
   ⟨some 60, .build (ansC 0 none) [(0, 1, .c (.int .i64 1)), (1, 18, .t 58), (19, 9, .t 59)], none⟩, ⟨none, .store 28 (.t 6) (.t 60), none⟩, ⟨none, .store 1 (.t 7) (.c (.int .i64 0)), none⟩]) .ret) .skip)))))
def tryE : List (Nat × V) := [(3, .ptr 0 0), (4, .ptr 1 0), (5, .ptr 2 0), (6, .ptr 3 0), (7, .ptr 4 0)]
structure TryH (N : Heap) (v w : List In4) (live : Nat) : Prop where
 b0 : N[0]? = some (some (.cells [.vs (IL v) .no]))
 b1 : N[1]? = some (some (.cells [.vs (IL w) .no]))
 b2 : N[2]? = some (some (.cells [.int .u32 live]))
 b3 : N[3]? = some (some (.cells (ansC 0 none)))
 b4 : N[4]? = some (some (.cells [.int .i64 0]))
 lo : N[14]? = some (some (.loop tryE [46] tryAs tryBo .ready))
 shut : HShut N
theorem TryH.app {N : Heap} {v w : List In4} {live : Nat} (h : TryH N v w live) {X : Heap} (hX : ∀ n, X.map (Option.map (Blk.cl n)) = X) : TryH (N ++ X) v w live := by
 have lt := (List.getElem?_eq_some_iff.1 h.lo).1
 refine ⟨?_, ?_, ?_, ?_, ?_, ?_, h.shut.app hX⟩
 all_goals rw [List.getElem?_append_left (by omega)]
 ·exact h.b0
 ·exact h.b1
 ·exact h.b2
 ·exact h.b3
 ·exact h.b4
 ·exact h.lo
end Go.Ev
/- A filter with another window: splice.Put. -/
namespace Go.Ev
open Go Go.RowKit
variable {G : Tbl}
set_option maxRecDepth 10000
set_option maxHeartbeats 2000000
set_option linter.unusedSimpArgs false
set_option linter.unusedVariables false
def adjN (a e less i d : Nat) : Nat := if i < a ∧ e ≤ i + 1 + d then d - less else d
def putI (a e less i : Nat) (x : In4) : In4 := if x.op = 5 then { x with k := adjN a e less i x.k } else if isBr x.op then { x with jt := (adjN a e less i x.jt.toNat : Nat), jf := (adjN a e less i x.jf.toNat : Nat) } else x
def pre (f : List In4) (a e less m : Nat) : List In4 := (List.range m).map fun i => putI a e less i (f.getD i RET)
end Go.Ev
/- A filter's free pieces: splice.Pieces, hurdleref22.Pieces. -/
namespace Go.Ev
open Go Go.RowKit
variable {G : Tbl}
set_option maxRecDepth 10000
set_option maxHeartbeats 2000000
set_option linter.unusedSimpArgs false
set_option linter.unusedVariables false
abbrev Pc := Nat × Nat
def rowsV (l : List Pc) : List (List V) := l.map fun p => [.int .i64 (p.1 : Int), .int .i64 (p.2 : Int)]
@[simp] theorem rowsV_length (l : List Pc) : (rowsV l).length = l.length := by simp [rowsV]
@[simp] theorem rowsV_nil : rowsV [] = [] := rfl
@[simp] theorem rowsV_snoc (l : List Pc) (a m : Nat) : rowsV l ++ [[V.int .i64 (a : Int), .int .i64 (m : Int)]] = rowsV (l ++ [(a, m)]) := by simp [rowsV]
@[simp] theorem rowsV_get (l : List Pc) (i : Nat) : (rowsV l)[i]? = (l[i]?).map fun p => [.int .i64 (p.1 : Int), .int .i64 (p.2 : Int)] := by simp [rowsV]
@[simp] theorem rowsV_sz (l : List Pc) : (∀ f ∈ rowsV l, f.length = 2) = True := by
 simp only [eq_iff_iff, iff_true]
 intro f hf
 simp only [rowsV, List.mem_map] at hf
 obtain ⟨x, _, rfl⟩ := hf
 rfl
def rowsW (t : Tk) (l : List Pc) : List (List V) := l.map fun p => [.vs [[.int .i64 (p.1 : Int)], [.int .i64 (p.2 : Int)]] t]
@[simp] theorem rowsW_length (t : Tk) (l : List Pc) : (rowsW t l).length = l.length := by simp [rowsW]
@[simp] theorem rowsW_nil (t : Tk) : rowsW t [] = [] := rfl
@[simp] theorem rowsW_get (t : Tk) (l : List Pc) (i : Nat) : (rowsW t l)[i]? = (l[i]?).map fun p => [.vs [[.int .i64 (p.1 : Int)], [.int .i64 (p.2 : Int)]] t] := by simp [rowsW]
@[simp] theorem rowsW_sz (t : Tk) (l : List Pc) : (∀ f ∈ rowsW t l, f.length = 1) = True := by
 simp only [eq_iff_iff, iff_true]
 intro f hf
 simp only [rowsW, List.mem_map] at hf
 obtain ⟨x, _, rfl⟩ := hf
 rfl
end Go.Ev
/- Filters without what is never come to: plain laws. -/
namespace Go.Ev
open Go Go.RowKit
set_option maxRecDepth 10000
set_option maxHeartbeats 4000000
set_option linter.unusedSimpArgs false
set_option linter.unusedVariables false
def clsB : List In4 → List Bool → Prop
 | x :: f, b :: m => (b = true → ∀ o ∈ offs x, m[o]? = some true) ∧ clsB f m
 | [], [] => True
 | _, _ => False
end Go.Ev
/- The parts of windows of sums, and of bits: plain laws. -/
namespace Go.Ev
open Go Go.RowKit
set_option maxRecDepth 10000
set_option maxHeartbeats 2000000
set_option linter.unusedSimpArgs false
set_option linter.unusedVariables false
variable {G : Tbl} {L L' : List Nd}
def Lasts (F : Nat → List Nd → Int → Prop) : Prop := ∀ i L L' x, F i L x → L <+: L' → F i L' x
def AllN (F : Nat → List Nd → Int → Prop) (n : Nat) (L : List Nd) (p : List Int) : Prop := p.length = 18 ∧ ∀ i < n, F i L (p.getD i 0)
theorem AllN.pre {F : Nat → List Nd → Int → Prop} {n : Nat} {p : List Int} (h : AllN F n L p) (hF : Lasts F) (e : L <+: L') : AllN F n L' p := ⟨h.1, fun i hi => hF i _ _ _ (h.2 i hi) e⟩
theorem AllN.set {F : Nat → List Nd → Int → Prop} {n i : Nat} {p : List Int} {x : Int} (h : AllN F n L p) (hF : Lasts F) (e : L <+: L') (hx : F i L' x) : AllN F n L' (p.set i x) := by
 refine ⟨by rw [List.length_set]; exact h.1, fun j hj => ?_⟩
 by_cases hij : i = j
 ·subst hij
  by_cases hl : i < p.length
  ·rw [List.getD_eq_getElem?_getD, List.getElem?_set_self hl]; exact hx
  ·rw [List.set_eq_of_length_le (by omega)]; exact hF _ _ _ _ (h.2 i hj) e
 ·rw [List.getD_eq_getElem?_getD, List.getElem?_set_ne hij, ← List.getD_eq_getElem?_getD]; exact hF _ _ _ _ (h.2 j hj) e
end Go.Ev
/- The examples of layer 19; the laws SearchSound, SearchMore. -/
namespace Go.Ev
open Go Go.RowKit
variable {G : Tbl}
set_option maxRecDepth 10000
set_option maxHeartbeats 4000000
set_option linter.unusedSimpArgs false
set_option linter.unusedVariables false
def sA (a : Nat) : St := ⟨a, 0, zeros 16⟩
end Go.Ev
/- Tables of rules: plain laws. -/
namespace Go.Ev
open Go Go.RowKit
set_option maxRecDepth 10000
set_option maxHeartbeats 4000000
set_option linter.unusedSimpArgs false
set_option linter.unusedVariables false
structure TR where
 fr : List In4
 to : List In4
 lv : Nat
def bytes4 (k : Nat) : List UInt8 := (List.range 4).map fun i => UInt8.ofNat (k / 2 ^ (8 * i) % 256)
def encI (x : In4) : List UInt8 := [UInt8.ofNat (x.op.toNat % 256), UInt8.ofNat (x.op.toNat / 256 % 256), UInt8.ofNat (x.jt.toNat % 256), UInt8.ofNat (x.jf.toNat % 256)] ++ bytes4 x.k
def encW (w : List In4) : List UInt8 := w.flatMap encI
def TR.by (r : TR) : List UInt8 := bytes4 r.lv ++ ([UInt8.ofNat (r.fr.length % 256), UInt8.ofNat (r.to.length % 256)] ++ (encW r.fr ++ encW r.to))
end Go.Ev
/- Bytes of windows: the code. -/
namespace Go.Ev
open Go Go.RowKit
variable {G : Tbl}
set_option maxRecDepth 10000
set_option maxHeartbeats 8000000
set_option linter.unusedSimpArgs false
set_option linter.unusedVariables false
theorem convU8m (a : Nat) : convI .u8 (a : Int) = ((a % 256 : Nat) : Int) := by
 unfold convI
 simp [IntKind.wrap, IntKind.bits, IntKind.signed]
def encN (x : In4) : List Nat := [x.op.toNat % 256, x.op.toNat / 256 % 256, x.jt.toNat % 256, x.jf.toNat % 256] ++ lowL x.k 4
theorem encN_len (x : In4) : (encN x).length = 8 := by simp [encN, lowL]
def encNW (w : List In4) : List Nat := w.flatMap encN
theorem encNW_len : ∀ w : List In4, (encNW w).length = 8 * w.length
 | [] => rfl
 | x :: w => by rw [encNW, List.flatMap_cons, List.length_append, encN_len, ← encNW, encNW_len w, List.length_cons]; omega
theorem encNW_snoc (w : List In4) (x : In4) : encNW (w ++ [x]) = encNW w ++ encN x := by simp [encNW]
theorem right_rng {x : In4} (h : rightI x = true) : (0 ≤ x.op ∧ x.op ≤ 255) ∧ (0 ≤ x.jt ∧ x.jt ≤ 255) ∧ 0 ≤ x.jf ∧ x.jf ≤ 255 := by
 cases hr : shapeOf x.op with
 | none => simp [rightI, hr] at h
 | some r =>
  obtain ⟨h1, h2⟩ := shape_some hr
  have h3 : ∀ r ∈ shapeRows, 0 ≤ r.1 ∧ r.1 ≤ 255 := by decide
  have h4 := h3 r h2
  rw [h1] at h4
  refine ⟨h4, ?_⟩
  rw [rightI, hr] at h
  simp only [Bool.and_eq_true] at h
  obtain ⟨_, h⟩ := h
  split at h
  ·simp only [decide_eq_true_eq] at h; omega
  ·simp only [decide_eq_true_eq] at h; omega
theorem check_ok [HasIns G] [HasEnc G] (w : List In4) (hw : w.length ≤ 4096) (hk : ∀ x ∈ w, x.k < 4294967296) (hr : ∀ x ∈ w, rightI x = true) : FP G 350 [FL w] (.int .i64 0) := by
 refine FP_of HasEnc.h_codec_check (Nat.le_of_ble_eq_true rfl) ?_
 have h1 : ((4096 : Int) < (w.length : Int)) = False := eq_false (by omega)
 simp [FL, h1]
 refine W_up w.length (fun i => [(8, FL w), (9, .int .i64 w.length), (10, .int .i64 i)]) (fun _ => []) (fun _ => True) ?_ ?_
 ·simp [keep_cl, trunc, FL]
 intro i hi _
 by_cases hlt : i < w.length
 ·obtain ⟨x, hfx⟩ : ∃ x, x = w[i] := ⟨_, rfl⟩
  have hgg := FL_get hlt
  rw [← hfx] at hgg
  have hri := hr x (by rw [hfx]; exact List.getElem_mem hlt)
  have hxl : x.cs.length = 4 := rfl
  have hxt : x.cs.take 4 = x.cs := rfl
  simp (disch := omega) [ltT, FL, hgg, hfx.symm, hxl, hxt]
  refine callP_of (RightI_ok x) ?_
  simp (disch := omega) [hri, hlt, add1', keep_cl, trunc, -Int.natCast_add]
 ·have hne : i = w.length := by omega
  subst hne
  simp
theorem Encode_ok [HasIns G] [HasEnc G] (w : List In4) (hw : w.length ≤ 4096) (hk : ∀ x ∈ w, x.k < 4294967296) (hr : ∀ x ∈ w, rightI x = true) : FP G 351 [FL w] (.tup [.vs (nats .u8 (encNW w)) .no, .int .i64 0]) := by
 refine FP_of HasEnc.h_codec_Encode (Nat.le_of_ble_eq_true rfl) ?_
 have hck := check_ok (G := G) w hw hk hr
 simp [FL]
 refine callP_of hck ?_
 simp
 obtain ⟨T, hT⟩ : ∃ T : Nat → List Nat, ∀ j, T j = encNW (w.take j) := ⟨_, fun _ => rfl⟩
 have hT0 : T 0 = [] := by rw [hT]; rfl
 refine W_up w.length (fun i => [(5, .vs (nats .u8 (T i)) (.own 0)), (14, FL w), (15, .int .i64 w.length), (16, .int .i64 i)]) (fun i => [some (.zone (T i).length)]) (fun _ => True) ?_ ?_
 ·simp [keep_cl, trunc, FL, hT0]
 intro i hi _
 by_cases hlt : i < w.length
 ·obtain ⟨x, hfx⟩ : ∃ x, x = w[i] := ⟨_, rfl⟩
  have hgg := FL_get hlt
  rw [← hfx] at hgg
  have hxk : x.k < 4294967296 := hk x (by rw [hfx]; exact List.getElem_mem hlt)
  obtain ⟨r1, r2, r3⟩ := right_rng (hr x (by rw [hfx]; exact List.getElem_mem hlt))
  have hTs : T (i + 1) = T i ++ encN x := by
   rw [hT, hT, List.take_add_one, List.getElem?_eq_getElem hlt, Option.toList_some, encNW_snoc, hfx]
  have hTl : (T i).length = 8 * i := by rw [hT, encNW_len, List.length_take]; omega
  obtain ⟨o, ho⟩ : ∃ o : Nat, x.op = o := ⟨x.op.toNat, by omega⟩
  obtain ⟨jt, hjt⟩ : ∃ o : Nat, x.jt = o := ⟨x.jt.toNat, by omega⟩
  obtain ⟨jf, hjf⟩ : ∃ o : Nat, x.jf = o := ⟨x.jf.toNat, by omega⟩
  obtain ⟨k, hxk2⟩ : ∃ k, x.k = k := ⟨_, rfl⟩
  have hcs : x.cs = [.int .i64 o, .int .i64 jt, .int .i64 jf, .int .u32 k] := by rw [In4.cs, ho, hjt, hjf, hxk2]
  have hen : encN x = [o % 256, o / 256 % 256, jt % 256, jf % 256] ++ lowL k 4 := by rw [encN, ho, hjt, hjf, hxk2]; rfl
  have hs8 : shrI .i64 (o : Int) 8 = ((o / 256 : Nat) : Int) := shr64 (j := 8) (by decide)
  obtain ⟨U, hU⟩ : ∃ U : List Nat, U = T i ++ [o % 256, o / 256 % 256, jt % 256, jf % 256] := ⟨_, rfl⟩
  have hUl : U.length = 8 * i + 4 := by rw [hU, List.length_append, hTl]; rfl
  have hap : nats .u8 (T i) ++ [[V.int .u8 (o % 256 : Nat)], [V.int .u8 (o / 256 % 256 : Nat)], [V.int .u8 (jt % 256 : Nat)], [V.int .u8 (jf % 256 : Nat)]] = nats .u8 U := by
   rw [hU]; simp [nats]
  simp (disch := omega) [ltT, FL, hgg, hfx.symm, hcs, convU8m, hs8, hap, hTl, hUl, leTn, keep_cl, -Int.natCast_add, -Int.natCast_ediv, -Int.natCast_emod]
  refine W_up 4 (fun j => [(5, .vs (nats .u8 (U ++ lowL k j)) (.own 0)), (7, .ptr 1 0), (14, FL w), (15, .int .i64 w.length), (16, .int .i64 i), (36, .int .i64 j)])
   (fun j => [some (.zone (8 * i + 4 + j)), some (.cells [.int .i64 o, .int .i64 jt, .int .i64 jf, .int .u32 k]), none]) (fun _ => True) ?_ ?_
  ·have hl0 : lowL k 0 = [] := rfl
   simp [keep_cl, trunc, FL, hl0]
  intro j hj _
  by_cases hj4 : j < 4
  ·have m1 : mulI .i64 8 (j : Int) = ((8 * j : Nat) : Int) := by unfold mulI; exact IntWalk.i64_in _ ⟨by omega, by omega⟩
   have m2 : shrI .u32 (k : Int) ((8 * j : Nat) : Int) = ((k / 256 ^ j : Nat) : Int) := by
    rw [shr32 (by omega), Nat.pow_mul]
   have m0 : (((8 * j : Nat) : Int) < 0) = False := eq_false (by omega)
   have hls : nats .u8 (U ++ lowL k j) ++ [[V.int .u8 (k / 256 ^ j % 256 : Nat)]] = nats .u8 (U ++ lowL k (j + 1)) := by
    rw [lowL_succ]; simp [nats]
   have hll : (U ++ lowL k j).length = 8 * i + 4 + j := by rw [List.length_append, hUl, lowL_len]
   simp (disch := omega) [ltT, m0, m1, m2, convU8m, hls, hll, leTn, add1', hj4, keep_cl, trunc, FL, -Int.natCast_add, -Int.natCast_mul, -Int.natCast_ediv, -Int.natCast_emod, -Int.natCast_pow]
   omega
  ·have hne : j = 4 := by omega
   subst hne
   have hfin : U ++ lowL k 4 = T (i + 1) := by rw [hTs, hen, hU, List.append_assoc]
   have hTl2 : (T (i + 1)).length = 8 * i + 4 + 4 := by rw [← hfin, List.length_append, hUl, lowL_len]
   simp (disch := omega) [hfin, hTl2, hlt, add1', keep_cl, trunc, FL, -Int.natCast_add]
 ·have hne : i = w.length := by omega
  subst hne
  have : T w.length = encNW w := by rw [hT, List.take_length]
  simp [this]
end Go.Ev
/- Instructions read from their texts: contracts. -/
namespace Go.Ev
open Go Go.RowKit
variable {G : Tbl}
set_option maxRecDepth 10000
set_option maxHeartbeats 16000000
set_option linter.unusedSimpArgs false
set_option linter.unusedVariables false
theorem num_ok [HasParse G] {H : Heap} {rb xb : Nat} (n most : Nat) (tl : List (List UInt8)) (hH : HShut H) (hr : H[rb]? = some (some (.cells [.vs (strs (textN n :: tl)) .no]))) (hn : n < 18446744073709551616) (hm : n ≤ most) (htl : tl.length ≤ 1000) :
  SF G 146 [.int .u64 most, .ptr rb 0, .ptr xb 0] H (.int .u64 n) (H.set rb (some (.cells [.vs (strs tl) .no]))) := by
 refine SF_of HasParse.h_ins_Parse_1 (Nat.le_of_ble_eq_true rfl) ?_
 have wP := ParseN_ok (G := G) n hn
 have lb : rb < H.length := (List.getElem?_eq_some_iff.1 hr).1
 have hsh : HShut (H.set rb (some (.cells [.vs (strs tl) .no]))) := by
  intro m hm
  rw [List.length_set] at hm
  rw [map_set', hH m hm]
  simp [Blk.cl, clL, V.cl, Tk.cl]
 have hs := hsh.self
 rw [List.length_set] at hs
 have hst : strs (textN n :: tl) = [.str (textN n)] :: strs tl := rfl
 rw [hst] at hr
 have e1 : ((tl.length : Int) + 1 == 0) = false := by simp; omega
 have e2 : ((most : Int) < (n : Int)) = False := eq_false (by omega)
 have e3 : ((1 : Int) ≤ (tl.length : Int) + 1) = True := eq_true (by omega)
 have e4 : (strs tl).take tl.length = strs tl := List.take_of_length_le (by simp)
 simp [hr, e1, keep_cl]
 refine callP_of wP ?_
 have e5 := strs_sz tl
 simp [hr, e2, e3, e4, e5, hs, keep_cl]
theorem callVN_of {f : Nat} {cap args : List V} {r : V} {H H' : Heap} {base : Nat} {d : Option Nat} {os : List SOper} {K : List Kt} {e : Env} {Q : Ex → Env → Heap → Prop} (h : SF G f (args ++ cap) H r H')
  (hr : WO G base os K (e.put d r) H' Q) : callV G false (.fn f cap) args base d os K e H Q := by
 obtain ⟨r1, H1, hb, hr1, ht⟩ := h
 refine callV_of hb (fun h => by cases h) ?_
 rw [hr1, ht]
 exact hr
theorem shape_names : (shapeRows.map fun r : Row4 => r.2.1).Nodup := by decide
theorem row_ne {n m : Nat} {r s : Row4} (hr : shapeRows[n]? = some r) (hs : shapeRows[m]? = some s) (h : m ≠ n) : s.2.1 ≠ r.2.1 := by
 intro e
 have hn := (List.getElem?_eq_some_iff.1 hr).1
 have hm := (List.getElem?_eq_some_iff.1 hs).1
 have h1 := shape_names
 have key := fun (a b : Nat) (ha : a < shapeRows.length) (hb : b < shapeRows.length) (hab : a < b) => List.pairwise_iff_getElem.1 h1 a b (by simpa using ha) (by simpa using hb) hab
 simp only [List.getElem_map] at key
 rcases Nat.lt_or_gt_of_ne h with hlt | hlt
 ·have := key m n hm hn hlt
  rw [(List.getElem?_eq_some_iff.1 hr).2, (List.getElem?_eq_some_iff.1 hs).2] at this
  exact this e
 ·have := key n m hn hm hlt
  rw [(List.getElem?_eq_some_iff.1 hr).2, (List.getElem?_eq_some_iff.1 hs).2] at this
  exact this e.symm
theorem insParse_ok [HasParse G] (x : In4) {r : Row4} (hx : rightI x = true) (hs : shapeOf x.op = some r) (hk : x.k < 4294967296) : FP G 147 [.str (joinW (insR x r))] (.tup [IV x, .int .i64 0]) := by
 refine FP_of HasParse.h_ins_Parse (Nat.le_of_ble_eq_true rfl) ?_
 obtain ⟨r', hr', h1, h2, h3, h4, h5⟩ := right_shape hx
 rw [hs] at hr'
 cases hr'
 have hrng : x.jt ≤ 255 ∧ x.jf ≤ 255 := by
  cases hw : r.2.2.2 with
  | false => have := h4 hw; omega
  | true => have := h5 hw; omega
 have hR : insR x r = r.2.1 :: ((if r.2.2.1 = true then [textN x.k] else []) ++ (if r.2.2.2 = true then [textN x.jt.toNat, textN x.jf.toNat] else [])) := rfl
 have hRl : (insR x r).length ≤ 4 := by rw [hR]; simp; split <;> split <;> simp
 have wW := insWords_ok (G := G) (insR x r) (by rw [hR]; simp) (insR_wordy h2 hk hrng) (by have := insR_len (x := x) h2; omega) (by omega)
 obtain ⟨n, hn⟩ := List.getElem?_of_mem h2
 have hn39 : n < 39 := (List.getElem?_eq_some_iff.1 hn).1
 have hsr : strs (insR x r) = [.str r.2.1] :: strs ((if r.2.2.1 = true then [textN x.k] else []) ++ (if r.2.2.2 = true then [textN x.jt.toNat, textN x.jf.toNat] else [])) := rfl
 rw [hsr] at wW
 obtain ⟨op, w, has, ways⟩ := r
 simp only at h1 h3 h4 h5 wW ⊢
 subst h1
 obtain ⟨T, hT⟩ : ∃ T, T = (if has = true then [textN x.k] else []) ++ (if ways = true then [textN x.jt.toNat, textN x.jf.toNat] else []) := ⟨_, rfl⟩
 rw [← hT] at wW
 simp
 refine callP_of wW ?_
 simp [shapes_len, shapes_take]
 refine W_up n (fun i => [(2, .ptr 0 0), (4, .vs ([.str w] :: strs T) .no), (12, .agg g_ins_shapes), (13, .int .i64 i)]) (fun _ => [some (.cells [.int .i64 0, .int .i64 0, .int .i64 0, .int .u32 0])]) (fun _ => True) ?_ ?_
 ·simp [keep_cl, trunc, shapes_cl, clL, V.cl, Tk.cl]
 intro i hi _
 obtain ⟨s, hsi⟩ : ∃ s, shapeRows[i]? = some s := ⟨_, List.getElem?_eq_getElem (show i < shapeRows.length by have : shapeRows.length = 39 := rfl; omega)⟩
 have hat := shapes_at hsi
 rcases Nat.eq_or_lt_of_le hi with he | hlt
 ·subst he
  rw [hn] at hsi
  cases hsi
  have hsz : (∀ a ∈ ([V.str w] :: strs T), a.length = 1) = True := eq_true (by
   intro a ha
   rcases List.mem_cons.1 ha with rfl | ha
   ·rfl
   ·have := strs_sz T; rw [eq_iff_iff, iff_true] at this; exact this a ha)
  have hszT := strs_sz T
  have htk : (strs T).take T.length = strs T := List.take_of_length_le (by simp)
  have e3 : ((1 : Int) ≤ (T.length : Int) + 1) = True := eq_true (by omega)
  obtain ⟨D, hD⟩ : ∃ D : Int → Int → Int → List (List UInt8) → Heap, ∀ k jt jf l, D k jt jf l = [some (.cells [.int .i64 0, .int .i64 0, .int .i64 0, .int .u32 0]), some (.cells [.int .i64 x.op, .str w, .bool has, .bool ways]), some (.cells [.int .i64 x.op, .int .i64 jt, .int .i64 jf, .int .u32 k]), some (.cells [.vs (strs l) .no])] := ⟨_, fun _ _ _ _ => rfl⟩
  have Dsh : ∀ k jt jf l, HShut (D k jt jf l) := fun k jt jf l m hm => by
   rw [hD] at hm ⊢
   simp [Blk.cl, clL, V.cl, Tk.cl]
  have Dst : ∀ k jt jf l l', (D k jt jf l).set 3 (some (.cells [.vs (strs l') .no])) = D k jt jf l' := fun k jt jf l l' => by rw [hD, hD]; rfl
  have num : ∀ (k jt jf : Int) (n most : Nat) (tl : List (List UInt8)), n < 18446744073709551616 → n ≤ most → tl.length ≤ 1000 → SF G 146 [.int .u64 most, .ptr 3 0, .ptr 2 0] (D k jt jf (textN n :: tl)) (.int .u64 n) (D k jt jf tl) := fun k jt jf n most tl h1 h2 h3 => by
   have := num_ok (G := G) (H := D k jt jf (textN n :: tl)) (rb := 3) (xb := 2) n most tl (Dsh _ _ _ _) (by rw [hD]; rfl) h1 h2 h3
   rwa [Dst] at this
  have op0 : (x.op < 0) = False := eq_false (by have := right_rng hx; omega)
  have ck : convI .u32 (x.k : Int) = (x.k : Int) := IntWalk.u32_in _ ⟨by omega, by omega⟩
  have c8 : ∀ n : Nat, n ≤ 255 → convI .i64 (n : Int) = (n : Int) := fun n hn => IntWalk.i64_in _ ⟨by omega, by omega⟩
  cases has with
  | false =>
   have hk0 := h3 rfl
   cases ways with
   | false =>
    obtain ⟨j1, j2⟩ := h4 rfl
    simp at hT
    subst hT
    simp (disch := omega) [ltT, leTn, shapes_len, hat, rowCs, op0, keep_cl, IV, In4.cs, hk0, j1, j2, strs]
   | true =>
    obtain ⟨j1, j2, j3, j4⟩ := h5 rfl
    obtain ⟨a, ha⟩ : ∃ a : Nat, x.jt = a := ⟨x.jt.toNat, by omega⟩
    obtain ⟨b, hb⟩ : ∃ b : Nat, x.jf = b := ⟨x.jf.toNat, by omega⟩
    have at_ : x.jt.toNat = a := by omega
    have bt_ : x.jf.toNat = b := by omega
    rw [at_, bt_] at hT
    simp at hT
    have n1 := num 0 0 0 a 255 [textN b] (by omega) (by omega) (by simp)
    have n2 := num 0 a 0 b 255 [] (by omega) (by omega) (by simp)
    have ca := c8 a (by omega)
    have cb := c8 b (by omega)
    rw [← hT] at n1
    simp only [hD] at n1 n2
    simp (disch := omega) [ltT, leTn, shapes_len, hat, rowCs, hsz, hszT, htk, e3, op0, keep_cl]
    refine callVN_of n1 ?_
    simp [ca, keep_cl]
    refine callVN_of n2 ?_
    simp [cb, op0, keep_cl, IV, In4.cs, hk0, ha, hb, strs]
  | true =>
   cases ways with
   | false =>
    obtain ⟨j1, j2⟩ := h4 rfl
    simp at hT
    have n1 := num 0 0 0 x.k 4294967295 [] (by omega) (by omega) (by simp)
    rw [← hT] at n1
    simp only [hD] at n1
    simp (disch := omega) [ltT, leTn, shapes_len, hat, rowCs, hsz, hszT, htk, e3, op0, keep_cl]
    refine callVN_of n1 ?_
    simp [ck, op0, keep_cl, IV, In4.cs, j1, j2, strs]
   | true =>
    obtain ⟨j1, j2, j3, j4⟩ := h5 rfl
    obtain ⟨a, ha⟩ : ∃ a : Nat, x.jt = a := ⟨x.jt.toNat, by omega⟩
    obtain ⟨b, hb⟩ : ∃ b : Nat, x.jf = b := ⟨x.jf.toNat, by omega⟩
    have at_ : x.jt.toNat = a := by omega
    have bt_ : x.jf.toNat = b := by omega
    rw [at_, bt_] at hT
    simp at hT
    have n0 := num 0 0 0 x.k 4294967295 [textN a, textN b] (by omega) (by omega) (by simp)
    have n1 := num x.k 0 0 a 255 [textN b] (by omega) (by omega) (by simp)
    have n2 := num x.k a 0 b 255 [] (by omega) (by omega) (by simp)
    have ca := c8 a (by omega)
    have cb := c8 b (by omega)
    rw [← hT] at n0
    simp only [hD] at n0 n1 n2
    simp (disch := omega) [ltT, leTn, shapes_len, hat, rowCs, hsz, hszT, htk, e3, op0, keep_cl]
    refine callVN_of n0 ?_
    simp [ck, keep_cl]
    refine callVN_of n1 ?_
    simp [ca, keep_cl]
    refine callVN_of n2 ?_
    simp [cb, op0, keep_cl, IV, In4.cs, ha, hb, strs]
 ·have hne := row_ne hn hsi (by omega)
  obtain ⟨op', w', has', ways'⟩ := s
  simp only at hne
  have hne' : (w' == w) = false := by simpa using hne
  simp (disch := omega) [ltT, leTn, shapes_len, hat, rowCs, hne', add1', hlt, keep_cl, trunc, shapes_cl, clL, V.cl, Tk.cl, -Int.natCast_add]
end Go.Ev
/- Filters as texts, and back: contracts. -/
namespace Go.Ev
open Go Go.RowKit
variable {G : Tbl}
set_option maxRecDepth 10000
set_option maxHeartbeats 16000000
set_option linter.unusedSimpArgs false
set_option linter.unusedVariables false
def insT (x : In4) : List UInt8 := joinW (insW x)
theorem insT_eq {x : In4} {r : Row4} (h : shapeOf x.op = some r) : insT x = joinW (insR x r) := by rw [insT, insW, h]
theorem insT_len {x : In4} (hx : rightI x = true) : (insT x).length ≤ 62 := by
 obtain ⟨r, hr, _, hm, _⟩ := right_shape hx
 rw [insT_eq hr]
 exact insR_len hm
theorem insT_liney {x : In4} (hx : rightI x = true) (hk : x.k < 4294967296) : liney (insT x) := by
 obtain ⟨r, hr, _, hm, _⟩ := right_shape hx
 have := right_rng hx
 rw [insT_eq hr]
 exact joinW_liney (insR_wordy hm hk ⟨this.2.1.2, this.2.2.2⟩)
theorem shape_ne : ∀ r ∈ shapeRows, r.2.1 ≠ [] := by decide
theorem insT_ne {x : In4} (hx : rightI x = true) : insT x ≠ [] := by
 obtain ⟨r, hr, _, hm, _⟩ := right_shape hx
 rw [insT_eq hr]
 have h := shape_ne r hm
 intro e
 apply h
 unfold insR at e
 generalize ((if r.2.2.1 = true then [textN x.k] else []) ++ (if r.2.2.2 = true then [textN x.jt.toNat, textN x.jf.toNat] else [])) = R at e
 cases R with
 | nil => exact e
 | cons v R => rw [joinW_cons _ (by simp)] at e; simp at e
def filT (f : List In4) : List UInt8 := linesT (f.map insT)
theorem ofBytes_append (a b : List UInt8) : ofBytes a ++ ofBytes b = ofBytes (a ++ b) := by simp [ofBytes]
theorem ofBytes_length (a : List UInt8) : (ofBytes a).length = a.length := by simp [ofBytes]
theorem ofBytes_sz (a : List UInt8) : (∀ f ∈ ofBytes a, f.length = 1) = True := by
 simp only [eq_iff_iff, iff_true]
 intro f hf
 simp only [ofBytes, List.mem_map] at hf
 obtain ⟨_, _, rfl⟩ := hf
 rfl
theorem filPrint_ok [HasIns G] [HasWText G] [HasEnc G] [HasTopI G] (f : List In4) (hl : f.length ≤ 4096) (hk : ∀ x ∈ f, x.k < 4294967296) (hr : ∀ x ∈ f, rightI x = true) : FP G 469 [FL f] (.tup [.str (filT f), .int .i64 0]) := by
 refine FP_of HasTopI.h_codec_Print (Nat.le_of_ble_eq_true rfl) ?_
 have wC := check_ok (G := G) f hl hk hr
 obtain ⟨T, hT⟩ : ∃ T : Nat → List UInt8, ∀ i, T i = linesT ((f.take i).map insT) := ⟨_, fun _ => rfl⟩
 have hTs : ∀ (i : Nat) (x : In4), f[i]? = some x → T (i + 1) = T i ++ (insT x ++ [10]) := fun i x h => by
  rw [hT, hT, List.take_add_one, h, List.map_append, linesT_append]
  simp [linesT]
 have hTl : ∀ i, i ≤ f.length → (T i).length ≤ 63 * i := by
  intro i
  induction i with
  | zero => intro _; rw [hT]; simp [linesT]
  | succ i ih =>
   intro hi
   have hg : f[i]? = some f[i] := List.getElem?_eq_getElem (by omega)
   have h1 := insT_len (hr f[i] (List.getElem_mem (by omega)))
   have h2 := ih (by omega)
   rw [hTs i _ hg]
   simp
   omega
 have hTN : T f.length = filT f := by rw [hT, List.take_length]; rfl
 have hT0 : T 0 = [] := by rw [hT]; rfl
 rw [← hTN]
 simp only [FL] at wC ⊢
 simp
 refine callP_of wC ?_
 simp
 refine W_up f.length (fun i => [(5, .vs (ofBytes (T i)) (.own 0)), (15, .vs (IL f) .no), (16, .int .i64 f.length), (17, .int .i64 i)]) (fun i => [some (.zone (T i).length)]) (fun _ => True) ?_ ?_
 ·simp [keep_cl, trunc, hT0, ofBytes]
 intro i hi _
 by_cases hlt : i < f.length
 ·obtain ⟨x, hfx⟩ : ∃ x, x = f[i] := ⟨_, rfl⟩
  have hg : f[i]? = some x := by rw [List.getElem?_eq_getElem hlt, hfx]
  have hxm := List.mem_of_getElem? hg
  have hgg := FL_get hlt
  rw [← hfx] at hgg
  have hxl : x.cs.length = 4 := rfl
  have hxt : x.cs.take 4 = x.cs := rfl
  obtain ⟨r, hsh, _⟩ := right_shape (hr x hxm)
  have wP := insPrint_ok (G := G) x (hr x hxm) hsh (hk x hxm)
  rw [← insT_eq hsh] at wP
  have l1 := insT_len (hr x hxm)
  have hs := hTs i x hg
  have hne := insT_ne (hr x hxm)
  have hl2 := hTl i hi
  have hl3 := hTl (i + 1) (by omega)
  have hgt : (IL f)[i]'(by simpa using hlt) = x.cs := by simp [IL, ← hfx]
  have hgc : (IL f)[i]? = some x.cs := by simp [hg]
  generalize insT x = P at *
  have hne' : (ofBytes P = []) = False := eq_false (by intro e; apply hne; simpa [ofBytes] using e)
  have b1 : ((T i).length + P.length ≤ 140737488355328) = True := eq_true (by omega)
  have b3 : ((T i).length + P.length + 1 ≤ 140737488355328) = True := eq_true (by omega)
  have b5 : ((T i).length + (P.length + 1) ≤ 140737488355328) = True := eq_true (by omega)
  have e1 : ofBytes (T i) ++ ofBytes P = ofBytes (T i ++ P) := ofBytes_append _ _
  have e2 : ofBytes (T i ++ P) ++ [[.int .u8 10]] = ofBytes (T (i + 1)) := by rw [hs, ← List.append_assoc, ← ofBytes_append (T i ++ P) [10]]; rfl
  have z1 := ofBytes_sz (T i)
  have z2 := ofBytes_sz P
  have z3 := ofBytes_sz (T i ++ P)
  have y1 := ofBytes_length (T i)
  have y2 := ofBytes_length P
  have y3 := ofBytes_length (T i ++ P)
  have hTl1 : (T (i + 1)).length = (T i).length + (P.length + 1) := by rw [hs]; simp
  simp only [IV, In4.cs] at wP hgt hgc
  simp (disch := omega) [ltT, get_in, hgc, hgt, hlt]
  refine callP_of wP ?_
  simp (disch := omega) [hne', b1, b3, b5, e1, e2, z1, z2, z3, y1, y2, y3, hTl1, keep_cl, trunc, add1', hlt, Nat.add_assoc, -Int.natCast_add]
 ·have : i = f.length := by omega
  subst this
  simp (disch := omega) [ltF, keep_cl, trunc, bytesOf_of]
theorem filParse_ok [HasParse G] (f : List In4) (hl : f.length ≤ 4000) (hk : ∀ x ∈ f, x.k < 4294967296) (hr : ∀ x ∈ f, rightI x = true) : FP G 148 [.str (filT f)] (.tup [FL f, .int .i64 0, .int .i64 0]) := by
 refine FP_of HasParse.h_codec_Parse (Nat.le_of_ble_eq_true rfl) ?_
 obtain ⟨L, hL⟩ : ∃ L, L = f.map insT := ⟨_, rfl⟩
 obtain ⟨S, hS⟩ : ∃ S, S = filT f := ⟨_, rfl⟩
 have hSL : S = linesT L := by rw [hS, hL]; rfl
 have hLl : L.length = f.length := by rw [hL]; simp
 have hLx : ∀ (k : Nat) (w : List UInt8), L[k]? = some w → ∃ x, f[k]? = some x ∧ w = insT x := by
  intro k w h
  rw [hL, List.getElem?_map] at h
  cases hf : f[k]? with
  | none => rw [hf] at h; cases h
  | some x => rw [hf] at h; simp at h; exact ⟨x, rfl, h.symm⟩
 obtain ⟨O, hO⟩ : ∃ O : Nat → Nat, ∀ k, O k = offL L k := ⟨_, fun _ => rfl⟩
 have oS : ∀ (k : Nat) (w : List UInt8), L[k]? = some w → O (k + 1) = O k + w.length + 1 := fun k w h => by rw [hO, hO]; exact off_succ h
 have oL : ∀ (k : Nat) (w : List UInt8), L[k]? = some w → O k + w.length < S.length := fun k w h => by rw [hO, hSL]; exact off_le h
 have oE : O f.length = S.length := by rw [hO, ← hLl, off_len, hSL]
 have o0 : O 0 = 0 := by rw [hO]; rfl
 have oB : ∀ k, k ≤ f.length → O k ≤ 63 * k := by
  intro k
  induction k with
  | zero => intro _; rw [o0]; exact Nat.le_refl _
  | succ k ih =>
   intro hk
   have hg : L[k]? = some (L[k]'(by omega)) := List.getElem?_eq_getElem (by omega)
   obtain ⟨x, h1, h2⟩ := hLx k _ hg
   have := oS k _ hg
   have := insT_len (hr x (List.mem_of_getElem? h1))
   rw [← h2] at this
   have := ih (by omega)
   omega
 have hSl : S.length ≤ 252000 := by rw [← oE]; have := oB f.length (Nat.le_refl _); omega
 have sAt : ∀ (k : Nat) (w : List UInt8) (j : Nat), L[k]? = some w → j < w.length → S[O k + j]? = w[j]? := fun k w j h hj => by rw [hO, hSL]; exact line_at h hj
 have sNl : ∀ (k : Nat) (w : List UInt8), L[k]? = some w → S[O k + w.length]? = some 10 := fun k w h => by rw [hO, hSL]; exact line_nl h
 have sSl : ∀ (k : Nat) (w : List UInt8), L[k]? = some w → (S.drop (O k)).take w.length = w := fun k w h => by rw [hO, hSL]; exact line_slice h
 rw [← hS]
 clear hO hSL hS hL
 simp [FL, keep_cl]
 refine W_state (S := Nat × Nat) (fun s => S.length - (O s.1 + s.2)) (fun s => [(0, .str S), (5, .vs (IL (f.take s.1)) (.own 0)), (6, .int .i64 (O s.1 : Nat)), (11, .int .i64 S.length), (12, .int .i64 (O s.1 + s.2 : Nat))])
  (fun s => [some (.zone (min s.1 f.length))]) (fun s => (∃ w, L[s.1]? = some w ∧ s.2 ≤ w.length) ∨ (s.1 = f.length ∧ s.2 = 0)) (0, 0) ?_ ?_
 ·simp [keep_cl, trunc, o0, Blk.cl, Tk.cl]
  by_cases h0 : f.length = 0
  ·exact .inr h0.symm
  ·exact .inl ⟨_, List.getElem?_eq_getElem (show 0 < L.length by omega)⟩
 rintro ⟨k, j⟩ hP
 simp only at hP ⊢
 rcases hP with ⟨w, hw, hj⟩ | ⟨rfl, rfl⟩
 ·have hkL : k < f.length := by have := (List.getElem?_eq_some_iff.1 hw).1; omega
  obtain ⟨x, hx, hwx⟩ := hLx k w hw
  have hxm := List.mem_of_getElem? hx
  have hmin : min k f.length = k := by omega
  obtain ⟨o, hoo⟩ : ∃ o, o = O k := ⟨_, rfl⟩
  have hwl := oL k w hw
  rw [← hoo] at hwl
  rw [hmin]
  rcases Nat.lt_or_ge j w.length with hjl | hjl
  ·obtain ⟨b, g1, g2, g3⟩ := liney_at (by rw [hwx]; exact insT_liney (hr x hxm) (hk x hxm)) hjl
   rw [← sAt k w j hw hjl, ← hoo] at g1
   obtain ⟨q, hq⟩ : ∃ q, q = o + j := ⟨_, rfl⟩
   rw [← hq] at g1
   have g1' := (List.getElem?_eq_some_iff.1 g1).2
   have hb : ((b.toNat : Int) == 10) = false := beqN (b := 10) g3
   have hb' : ((b.toNat : Int) != 10) = true := by simp only [bne, hb]; rfl
   rw [← hoo, ← hq]
   simp (disch := omega) [ltT, g1, g1', get_in, hb', keep_cl, add1', -Int.natCast_add]
   refine ⟨(k, j + 1), ?_, .inl ⟨w, hw, hjl⟩, ?_, ?_⟩
   ·simp only; omega
   ·simp [← hoo, hq, keep_cl, Tk.cl, Nat.add_assoc]
   ·simp [hmin, trunc, Blk.cl]
  ·have hjw : j = w.length := by omega
   subst hjw
   obtain ⟨q, hq⟩ : ∃ q, q = o + w.length := ⟨_, rfl⟩
   have g1 := sNl k w hw
   rw [← hoo, ← hq] at g1
   have g1' := (List.getElem?_eq_some_iff.1 g1).2
   have hsl := sSl k w hw
   have hos := oS k w hw
   rw [← hoo] at hsl hos
   rw [← hq] at hos hwl
   have hwq : q - o = w.length := by omega
   rw [← hwq] at hsl
   obtain ⟨r, hsh, _⟩ := right_shape (hr x hxm)
   have wP := insParse_ok (G := G) x (hr x hxm) hsh (hk x hxm)
   rw [← insT_eq hsh, ← hwx] at wP
   have e1 : ((o : Int) ≤ (q : Int)) = True := eq_true (by omega)
   have e2 : ((q : Int) ≤ (S.length : Int)) = True := eq_true (by omega)
   have hk40 : ((k : Int) == 4096) = false := by simp; omega
   have hby : ((k + 1) * 32 ≤ 140737488355328) = True := eq_true (by omega)
   have htl : (f.take k).length = k := by rw [List.length_take]; omega
   have hsn : IL (f.take k) ++ [x.cs] = IL (f.take (k + 1)) := by rw [IL_snoc, List.take_add_one, hx]; rfl
   have hmin1 : min (k + 1) f.length = k + 1 := by omega
   simp only [IV, In4.cs] at wP hsn
   rw [← hoo, ← hq]
   simp (disch := omega) [ltT, g1, g1', get_in, e1, e2, hk40, htl, hsl, keep_cl, -Int.natCast_add]
   refine callP_of wP ?_
   simp (disch := omega) [hby, htl, hsn, keep_cl, add1', -Int.natCast_add]
   refine ⟨(k + 1, 0), ?_, ?_, ?_, ?_⟩
   ·simp only [hos, ← hoo]; omega
   ·by_cases hke : k + 1 = f.length
    ·exact .inr ⟨hke, rfl⟩
    ·exact .inl ⟨_, List.getElem?_eq_getElem (show k + 1 < L.length by omega), Nat.zero_le _⟩
   ·simp [hos, keep_cl, Tk.cl]
   ·simp [hmin1, trunc, Blk.cl]
 ·rw [oE]
  simp (disch := omega) [ltF, keep_cl]
end Go.Ev
/- Bytes read as a filter: contract, for bytes that are a filter's. -/
namespace Go.Ev
open Go Go.RowKit
variable {G : Tbl}
set_option maxRecDepth 10000
set_option maxHeartbeats 8000000
set_option linter.unusedSimpArgs false
set_option linter.unusedVariables false
theorem or_byte (k i : Nat) (hi : i < 4) (hk : k < 4294967296) : orI .u32 ((k % 256 ^ i : Nat) : Int) (shlI .u32 ((k / 256 ^ i % 256 : Nat) : Int) ((8 * i : Nat) : Int)) = ((k % 256 ^ (i + 1) : Nat) : Int) := by
 rw [shl32 (by omega)]
 have e : 256 ^ i = 2 ^ (8 * i) := by rw [Nat.pow_mul]
 have hm : k / 256 ^ i % 256 < 256 := Nat.mod_lt _ (by decide)
 have h2 : k / 256 ^ i % 256 * 2 ^ (8 * i) < 4294967296 := by
  have : i = 0 ∨ i = 1 ∨ i = 2 ∨ i = 3 := by omega
  rcases this with rfl | rfl | rfl | rfl <;> simp at hm ⊢ <;> omega
 have h1 : k % 256 ^ i < 2 ^ 32 := Nat.lt_of_le_of_lt (Nat.mod_le _ _) hk
 rw [Nat.mod_eq_of_lt h2, or32 h1 h2]
 have h3 : k % 256 ^ i < 2 ^ (8 * i) := by rw [e]; exact Nat.mod_lt _ (Nat.two_pow_pos _)
 rw [Nat.mul_comm, Nat.or_comm, ← Nat.two_pow_add_eq_or_of_lt h3]
 congr 1
 rw [Nat.pow_succ, Nat.mod_mul, e]
 omega
theorem Decode_ok [HasIns G] [HasDcd G] (f : List In4) (hl : f.length ≤ 4096) (hk : ∀ x ∈ f, x.k < 4294967296) (hr : ∀ x ∈ f, rightI x = true) : FP G 429 [.vs (nats .u8 (encNW f)) .no] (.tup [FL f, .int .i64 0]) := by
 refine FP_of HasDcd.h_codec_Decode (Nat.le_of_ble_eq_true rfl) ?_
 have hn := encNW_len f
 obtain ⟨N, hN⟩ : ∃ N, N = (encNW f).length := ⟨_, rfl⟩
 have g1 : (32768 < (N : Int)) = False := eq_false (by omega)
 have g2 : remI (N : Int) 8 = 0 := by
  have := rem64 (a := N) (b := 8)
  rw [show ((8 : Nat) : Int) = 8 from rfl] at this
  rw [this]; omega
 have hnl : (nats .u8 (encNW f)).length = N := by rw [nats_length, hN]
 obtain ⟨B, hB⟩ : ∃ B : Nat → List Nat, ∀ k, B k = encNW (f.drop k) := ⟨_, fun _ => rfl⟩
 have hB0 : B 0 = encNW f := by rw [hB, List.drop_zero]
 have hBl : ∀ k, (B k).length = 8 * (f.length - k) := fun k => by rw [hB, encNW_len, List.length_drop]
 rw [← hB0] at hnl ⊢
 have hBN : (B 0).length = N := by rw [← nats_length .u8, hnl]
 simp [hBN, g1, g2]
 refine W_up f.length (fun k => [(0, .vs (nats .u8 (B k)) .no), (4, .vs (IL (f.take k)) (.own 0))]) (fun k => [some (.zone k)]) (fun _ => True) ?_ ?_
 ·simp [keep_cl, trunc]
 intro k hk' _
 have hbl := hBl k
 by_cases hlt : k < f.length
 ·obtain ⟨x, hx⟩ : ∃ x, x = f[k] := ⟨_, rfl⟩
  have hg : f[k]? = some x := by rw [List.getElem?_eq_getElem hlt, hx]
  have hxm := List.mem_of_getElem? hg
  have hxk := hk x hxm
  obtain ⟨⟨o1, o2⟩, ⟨o3, o4⟩, o5, o6⟩ := right_rng (hr x hxm)
  obtain ⟨op, hop⟩ : ∃ n : Nat, x.op = n := ⟨x.op.toNat, by omega⟩
  obtain ⟨jt, hjt⟩ : ∃ n : Nat, x.jt = n := ⟨x.jt.toNat, by omega⟩
  obtain ⟨jf, hjf⟩ : ∃ n : Nat, x.jf = n := ⟨x.jf.toNat, by omega⟩
  have hBs : B k = encN x ++ B (k + 1) := by rw [hB, hB, List.drop_eq_getElem_cons hlt, ← hx, encNW, List.flatMap_cons]; rfl
  have hE : encN x = [op, 0, jt, jf, x.k % 256, x.k / 256 % 256, x.k / 256 ^ 2 % 256, x.k / 256 ^ 3 % 256] := by
   simp [encN, lowL, List.range, List.range.loop, hop, hjt, hjf]
   omega
  have b0 : (B k)[0]? = some op := by rw [hBs, hE]; rfl
  have b1 : (B k)[1]? = some 0 := by rw [hBs, hE]; rfl
  have b2 : (B k)[2]? = some jt := by rw [hBs, hE]; rfl
  have b3 : (B k)[3]? = some jf := by rw [hBs, hE]; rfl
  have bk : ∀ i, i < 4 → (B k)[4 + i]? = some (x.k / 256 ^ i % 256) := by
   intro i hi
   rw [hBs, hE]
   have : i = 0 ∨ i = 1 ∨ i = 2 ∨ i = 3 := by omega
   rcases this with rfl | rfl | rfl | rfl <;> simp
  have f0 := (List.getElem?_eq_some_iff.1 b0).2
  have f1 := (List.getElem?_eq_some_iff.1 b1).2
  have f2 := (List.getElem?_eq_some_iff.1 b2).2
  have f3 := (List.getElem?_eq_some_iff.1 b3).2
  have hpos : (0 < (B k).length) = True := eq_true (by omega)
  have hd8 : (B k).drop 8 = B (k + 1) := by rw [hBs, List.drop_left' (encN_len x)]
  have c : ∀ b : Nat, b < 256 → convI .i64 (b : Int) = (b : Int) := fun b hb => IntWalk.i64_in _ ⟨by omega, by omega⟩
  have c32 : ∀ b : Nat, b < 256 → convI .u32 (b : Int) = (b : Int) := fun b hb => IntWalk.u32_in _ ⟨by omega, by omega⟩
  have c0 := c op (by omega)
  have c2 := c jt (by omega)
  have c3 := c jf (by omega)
  have s0 : shlI .i64 0 8 = 0 := by decide
  have cz : convI .i64 0 = 0 := by decide
  have or0 : orI .i64 (op : Int) 0 = (op : Int) := by
   have := or64 (a := op) (b := 0) (by omega) (by decide)
   simpa using this
  simp (disch := omega) [hpos, b0, b1, b2, b3, f0, f1, f2, f3, get_in, c0, c2, c3, cz, s0, or0]
  have wR := RightI_ok (G := G) x
  rw [hr x hxm] at wR
  have hxc : x.cs = [.int .i64 (op : Int), .int .i64 (jt : Int), .int .i64 (jf : Int), .int .u32 (x.k : Int)] := by rw [In4.cs, hop, hjt, hjf]
  simp only [IV, hxc] at wR
  obtain ⟨Kf, hKf⟩ : ∃ Kf : Nat → Nat, ∀ i, Kf i = x.k % 256 ^ i := ⟨_, fun _ => rfl⟩
  have hK0 : Kf 0 = 0 := by rw [hKf]; simp [Nat.mod_one]
  have hK4 : Kf 4 = x.k := by rw [hKf]; exact Nat.mod_eq_of_lt hxk
  refine W_up 4 (fun i => [(0, .vs (nats .u8 (B k)) .no), (4, .vs (IL (f.take k)) (.own 0)), (5, .ptr 1 0), (40, .int .i64 i)]) (fun i => [some (.zone k), some (.cells [.int .i64 op, .int .i64 jt, .int .i64 jf, .int .u32 (Kf i)])]) (fun _ => True) ?_ ?_
  ·simp [keep_cl, trunc, hK0, f0, f1, f2, f3, c0, c2, c3, cz, s0, or0]
  intro i hi _
  by_cases hi4 : i < 4
  ·have hb := bk i hi4
   have hm : x.k / 256 ^ i % 256 < 256 := Nat.mod_lt _ (by decide)
   have ob := or_byte x.k i hi4 hxk
   rw [← hKf, ← hKf] at ob
   obtain ⟨bb, hbb⟩ : ∃ bb, bb = x.k / 256 ^ i % 256 := ⟨_, rfl⟩
   rw [← hbb] at hb hm ob
   have m8 : mulI .i64 8 (i : Int) = ((8 * i : Nat) : Int) := by
    unfold mulI
    rw [show ((8 : Int) * (i : Int)) = ((8 * i : Nat) : Int) by omega]
    exact IntWalk.i64_in _ ⟨by omega, by omega⟩
   have a4 : addI .i64 4 (i : Int) = ((4 + i : Nat) : Int) := by rw [addI64] <;> omega
   have cb := c32 bb hm
   have fb := (List.getElem?_eq_some_iff.1 hb).2
   have h8i : (((8 * i : Nat) : Int) < 0) = False := eq_false (by omega)
   have hi4' : ((i : Int) < 4) = True := eq_true (by omega)
   simp (disch := omega) [hi4', h8i, hb, fb, get_in, m8, a4, cb, ob, keep_cl, trunc, add1', hi4, -Int.natCast_add, -Int.natCast_mul]
  ·have : i = 4 := by omega
   subst this
   simp (disch := omega) [hK4, keep_cl, trunc]
   refine callP_of wR ?_
   have hby : ((k + 1) * 32 ≤ 140737488355328) = True := eq_true (by omega)
   have htl : (f.take k).length = k := by rw [List.length_take]; omega
   have hsn : IL (f.take k) ++ [[.int .i64 (op : Int), .int .i64 (jt : Int), .int .i64 (jf : Int), .int .u32 (x.k : Int)]] = IL (f.take (k + 1)) := by rw [← hxc, IL_snoc, List.take_add_one, hg]; rfl
   have h8 : ((8 : Int) ≤ ((B k).length : Int)) = True := eq_true (by omega)
   have hnb : nats .u8 (B (k + 1)) = (nats .u8 (B k)).drop 8 := by rw [nats_drop, hd8]
   have htb : (B (k + 1)).take ((B k).length - 8) = B (k + 1) := List.take_of_length_le (by rw [← hd8, List.length_drop]; omega)
   simp (disch := omega) [keep_cl, trunc, hby, htl, hsn, h8, nats_drop, nats_take, hd8, htb, hlt]
 ·have : k = f.length := by omega
  subst this
  have h0 : (0 < (B f.length).length) = False := eq_false (by omega)
  simp (disch := omega) [h0, keep_cl, trunc, FL]
end Go.Ev
/- The law TopBack. -/
namespace Go.Ev
open Go Go.RowKit
variable {G : Tbl}
set_option maxRecDepth 10000
set_option maxHeartbeats 16000000
set_option linter.unusedSimpArgs false
set_option linter.unusedVariables false
theorem okAll_rightT : ∀ {f : List In4}, okAll f = true → ∀ x ∈ f, rightI x = true
 | [], _, x, h => by simp at h
 | y :: f, ho, x, h => by
  simp only [okAll, Bool.and_eq_true] at ho
  rcases List.mem_cons.1 h with rfl | h
  ·have := ho.1
   simp only [oneB, Bool.and_eq_true] at this
   exact this.1.1.1
  ·exact okAll_rightT ho.2 x h
theorem TopBack_ok [HasIns G] [HasEnc G] [HasDcd G] [HasParse G] [HasR2 G] [HasR3 G] [HasR5 G] [HasWText G] [HasName G] [HasPol G] [HasCondR G] [HasCondN G] [HasR1t G] [HasR9a G] [HasR8 G] [HasR10 G]
  [HasTopN G] [HasTopC G] [HasTopP G] [HasTopR G] [HasTopI G] [HasTopS G] [HasTopB G] (hw : FP G 484 [] (.bool true)) (p : Po) (hp : p.wf) (f : List In4) (hf : f.length ≤ maxLen) (hk : ∀ x ∈ f, x.k < 4294967296) :
  FP G 485 [.agg p.cs, FL f] (.bool true) := by
 refine FP_of HasTopB.h_hurdletop_TopBack (Nat.le_of_ble_eq_true rfl) ?_
 obtain ⟨hp1, hp2, hp3⟩ := hp
 have w3 := polRightR_ok (G := G) p hp1 (fun r hr => ⟨(hp2 r hr).1, (hp2 r hr).2.2.2.2⟩) hp3
 have hokk : ∀ r ∈ p.rules, r.okk := fun r hr => ⟨(hp2 r hr).2.1, (hp2 r hr).2.2.1, (hp2 r hr).2.2.2.1, (hp2 r hr).2.2.2.2⟩
 have w7 := SoundR_ok (G := G) f hf hk
 unfold maxLen at hf hp1
 simp only [FL, Po.cs] at w3 w7 ⊢
 simp
 by_cases h5 : 500 < f.length
 ·have e1 : (500 < (f.length : Int)) = True := eq_true (by omega)
  simp [e1, keep_cl]
  refine callP_of hw ?_
  simp
 have e1 : (500 < (f.length : Int)) = False := eq_false (by omega)
 by_cases h100 : 100 < p.rules.length
 ·have e2 : (100 < (p.rules.length : Int)) = True := eq_true (by omega)
  simp [e1, e2, keep_cl]
  refine callP_of hw ?_
  simp
 have e2 : (100 < (p.rules.length : Int)) = False := eq_false (by omega)
 -- the filter's half
 have fin : soundF f = true → (∀ x ∈ f, rightI x = true) := fun h => okAll_rightT (by
  simp only [soundF, Bool.and_eq_true] at h
  exact h.1.2)
 simp [e1, e2, keep_cl]
 refine callP_of w3 ?_
 have h3c : rightP p = false ∨ (rightP p = true ∧ (polT p).length ≤ 20000) ∨ (rightP p = true ∧ 20000 < (polT p).length) := by
  cases rightP p with
  | false => exact .inl rfl
  | true => rcases Nat.lt_or_ge 20000 (polT p).length with h | h
            ·exact .inr (.inr ⟨rfl, h⟩)
            ·exact .inr (.inl ⟨rfl, h⟩)
 rcases h3c with hr | ⟨hr, hlen⟩ | ⟨hr, hlen⟩
 all_goals first
  | (
    obtain ⟨_, _, r3, r4⟩ := right_parts hr
    have v1 := polPrint_ok (G := G) p hr hokk hp3
    have v2 := polParse_ok (G := G) p hr hokk hp3 hlen
    have v3 := Same10_ok (G := G) p (by omega) (fun r hr => by have := r4 r hr; omega)
    simp only [Po.cs] at v1 v2 v3
    generalize polT p = T at *
    have e3 : ((T.length : Int) ≤ 20000) = True := eq_true (by omega)
    simp [hr, keep_cl]
    refine callP_of v1 ?_
    simp [keep_cl]
    refine callP_of v2 ?_
    simp [keep_cl, e3]
    refine callP_of v3 ?_
    simp [keep_cl])
  | (
    have v1 := polPrint_ok (G := G) p hr hokk hp3
    have v2 := polParse_long (G := G) (polT p) hlen
    simp only [Po.cs] at v1 v2
    generalize polT p = T at *
    have e3 : ((T.length : Int) ≤ 20000) = False := eq_false (by omega)
    simp [hr, keep_cl]
    refine callP_of v1 ?_
    simp [keep_cl]
    refine callP_of v2 ?_
    simp [keep_cl, e3])
  | simp [hr, keep_cl]
 all_goals
  refine callP_of w7 ?_
  cases hs : soundF f with
  | false =>
   simp [keep_cl]
   refine callP_of hw ?_
   simp
  | true =>
   have a6 := fin hs
   have w4 := Encode_ok (G := G) f (by omega) hk a6
   have w5 := Decode_ok (G := G) f (by omega) hk a6
   have w8 := filPrint_ok (G := G) f (by omega) hk a6
   have w9 := filParse_ok (G := G) f (by omega) hk a6
   have w10 := Same03_ok (G := G) f f (by omega)
   have hel := encNW_len f
   have e8 : (((8 * f.length : Nat) : Int) == mulI .i64 8 (f.length : Int)) = true := by
    have : mulI .i64 8 (f.length : Int) = ((8 * f.length : Nat) : Int) := by
     unfold mulI
     rw [show (8 : Int) * (f.length : Int) = ((8 * f.length : Nat) : Int) by omega]
     exact IntWalk.i64_in _ ⟨by omega, by omega⟩
    rw [this]; simp
   simp only [FL] at w4 w5 w8 w9 w10
   simp [keep_cl]
   refine callP_of w4 ?_
   simp [keep_cl]
   refine callP_of w5 ?_
   simp [keep_cl]
   refine callP_of w8 ?_
   simp [keep_cl]
   refine callP_of w9 ?_
   simp [keep_cl, hel, e8, -Int.natCast_mul]
   refine callP_of w10 ?_
   simp
   refine callP_of w10 ?_
   simp
   refine callP_of hw ?_
   simp
end Go.Ev
