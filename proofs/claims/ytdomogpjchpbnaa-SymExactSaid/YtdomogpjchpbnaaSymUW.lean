/- Values as they were made, and in the book. -/
import Derived.Test.YtdomogpjchpbnaaSymJW
import Derived.Test.YtdomogpjchpbnaaEvNW
import Derived.Test.YtdomogpjchpbnaaEvSW
import Derived.Test.YtdomogpjchpbnaaEvX
import Derived.Test.YtdomogpjchpbnaaEvLaw16CW
import Derived.Test.YtdomogpjchpbnaaEvBitsCW
import Derived.OpenShut
import Derived.ChangeShapes
import Derived.WideShapes
import Derived.Carry
import Derived.LaidMore
import Derived.Stop.Joined
namespace Go.Ev
open Go Go.RowKit
set_option maxRecDepth 10000
set_option maxHeartbeats 4000000
set_option linter.unusedSimpArgs false
set_option linter.unusedVariables false
variable {L L' : List Nd} {v : List Nat}
/-- What was made, and the book, say the same. -/
structure MI (v : List Nat) (s : MS) : Prop where
  inv : Inv s.L
  len : s.ids.length = s.made.length
  ok : mdOk s.made
  rel : ∀ (i : Nat) (x : Int) (a : Md) (o : Option Nat), s.ids[i]? = some x → s.made[i]? = some a → (refs v s.made)[i]? = some o →
    a.kind = 4 ∧ x = -1 ∧ o = none ∨ a.kind ≠ 4 ∧ ∃ n : Nat, x = n ∧ n < s.L.length ∧ valI v s.L n = o
theorem MI.there {s : MS} (h : MI v s) {x : Int} (hx : thereB s.made x = true) : ∃ n m : Nat, x = n ∧ n < s.made.length ∧ atI s.ids x = m ∧ m < s.L.length ∧ valI v s.L m = (refs v s.made)[n]?.join := by
  simp only [thereB, Bool.and_eq_true, decide_eq_true_eq] at hx
  obtain ⟨⟨h0, h1⟩, h2⟩ := hx
  obtain ⟨n, rfl⟩ := Int.eq_ofNat_of_zero_le h0
  have hn : n < s.made.length := by omega
  obtain ⟨a, ha⟩ : ∃ a, s.made[n]? = some a := ⟨_, get_in hn⟩
  obtain ⟨y, hy⟩ : ∃ y, s.ids[n]? = some y := ⟨_, get_in (by rw [h.len]; exact hn)⟩
  obtain ⟨o, ho⟩ : ∃ o, (refs v s.made)[n]? = some o := ⟨_, get_in (by rw [refs_len]; exact hn)⟩
  rw [Int.toNat_natCast, ha] at h2
  simp at h2
  rcases h.rel n y a o hy ha ho with ⟨h4, _⟩ | ⟨_, m, hm, hml, hv⟩
  · exact absurd h4 h2
  · refine ⟨n, m, rfl, hn, ?_, hml, ?_⟩
    · rw [atI, if_pos ⟨h0, by rw [h.len]; exact h1⟩, Int.toNat_natCast, hy, hm]; rfl
    · rw [hv, ho]; rfl
theorem MI.not_there {s : MS} (h : MI v s) {x : Int} (hx : thereB s.made x = false) : hasI s.L (atI s.ids x) = false := by
  rw [atI]
  split
  · rename_i hr
    obtain ⟨n, rfl⟩ := Int.eq_ofNat_of_zero_le hr.1
    have hn : n < s.made.length := by rw [← h.len]; omega
    obtain ⟨a, ha⟩ : ∃ a, s.made[n]? = some a := ⟨_, get_in hn⟩
    obtain ⟨y, hy⟩ : ∃ y, s.ids[n]? = some y := ⟨_, get_in (by rw [h.len]; exact hn)⟩
    obtain ⟨o, ho⟩ : ∃ o, (refs v s.made)[n]? = some o := ⟨_, get_in (by rw [refs_len]; exact hn)⟩
    have h4 : a.kind = 4 := by
      have : a.kind ≠ 4 → thereB s.made n = true := fun hk => by simp only [thereB, Int.toNat_natCast, ha]; simp [hk, hn]
      by_cases hk : a.kind = 4
      · exact hk
      · rw [this hk] at hx; cases hx
    rcases h.rel n y a o hy ha ho with ⟨_, h5, _⟩ | ⟨h5, _⟩
    · rw [Int.toNat_natCast, hy, h5]; rfl
    · exact absurd h4 h5
  · rfl
theorem bAlu_no {kind x y : Int} (h : ¬ ((doW kind 0 1).2 = true ∧ hasI L x = true ∧ hasI L y = true)) : bAlu L kind x y = (-1, L) := by rw [bAlu, if_neg h]
theorem MI.step {s : MS} (h : MI v s) (hv : v.length = 34) (hvw : ∀ c ∈ v, c < 4294967296) {a : Md} (hc : a.c < 4294967296) : MI v (makeS s a) := by
  have e := make_ext (s := s) (a := a) h.inv hc
  have hln := h.len
  have rl := refs_len (v := v) s.made
  -- it is enough to look at the new one
  have main : ∀ o : Option Nat, rval v (refs v s.made) (nextM s.made a) = o →
      ((nextM s.made a).kind = 4 ∧ (makeR s a).1 = -1 ∧ o = none ∨ (nextM s.made a).kind ≠ 4 ∧ Res v (makeR s a) o) →
      ((nextM s.made a).c < 4294967296 ∧ ((nextM s.made a).kind = 0 ∨ (nextM s.made a).kind = 1 ∧ 0 ≤ (nextM s.made a).i ∧ (nextM s.made a).i < 34 ∨ (nextM s.made a).kind = 2 ∧ 0 ≤ (nextM s.made a).x ∧ (nextM s.made a).x < s.made.length ∧ 0 ≤ (nextM s.made a).y ∧ (nextM s.made a).y < s.made.length ∨ (nextM s.made a).kind = 3 ∧ 0 ≤ (nextM s.made a).x ∧ (nextM s.made a).x < s.made.length ∨ (nextM s.made a).kind = 4)) →
      MI v (makeS s a) := fun o ho hr hm => by
    refine ⟨e.inv, by simp [makeS, hln], fun i b hb => ?_, fun i x b w hx hb hw => ?_⟩
    · simp only [makeS] at hb
      by_cases hi : i < s.made.length
      · rw [List.getElem?_append_left hi] at hb
        exact h.ok i b hb
      · have hl := (List.getElem?_eq_some_iff.1 hb).1
        simp at hl
        obtain rfl : i = s.made.length := by omega
        simp at hb
        subst hb
        exact hm
    · simp only [makeS] at hx hb hw ⊢
      rw [refs_snoc, ho] at hw
      by_cases hi : i < s.made.length
      · rw [List.getElem?_append_left hi] at hb
        rw [List.getElem?_append_left (by omega)] at hx
        rw [List.getElem?_append_left (by omega)] at hw
        rcases h.rel i x b w hx hb hw with h1 | ⟨h1, n, h2, h3, h4⟩
        · exact .inl h1
        · exact .inr ⟨h1, n, h2, Nat.lt_of_lt_of_le h3 e.pre.length_le, by rw [← h4]; exact valI_ext e h3⟩
      · have hl := (List.getElem?_eq_some_iff.1 hb).1
        simp at hl
        obtain rfl : i = s.made.length := by omega
        simp at hb
        rw [List.getElem?_append_right (by omega), hln, Nat.sub_self] at hx
        rw [List.getElem?_append_right (by omega), rl, Nat.sub_self] at hw
        simp at hx hw
        subst hb; subst hx; subst hw
        rcases hr with h1 | ⟨h1, n, h2, h3, h4⟩
        · exact .inl h1
        · exact .inr ⟨h1, n, h2, h3, h4⟩
  have none4 : nextM s.made a = noMd → (makeR s a).1 = -1 → MI v (makeS s a) := fun h1 h2 => by
    refine main none (by rw [h1]; rfl) (.inl ⟨by rw [h1]; rfl, h2, rfl⟩) ⟨by rw [h1]; exact (by decide : (0 : Nat) < 4294967296), by rw [h1]; exact .inr (.inr (.inr (.inr rfl)))⟩
  by_cases k0 : a.kind = 0
  · have hn : nextM s.made a = ⟨0, 0, 0, 0, 0, a.c⟩ := by rw [nextM, if_pos k0]
    have hR : makeR s a = putN s.L (sumNd (a.c :: zeros 34)) := by rw [makeR, if_pos k0]
    refine main (some a.c) (by rw [hn]; rfl) (.inr ⟨by rw [hn]; simp, by rw [hR]; exact const_res h.inv hv hc⟩) ⟨by rw [hn]; exact hc, by rw [hn]; exact .inl rfl⟩
  by_cases k1 : a.kind = 1
  · have hR : makeR s a = varN s.L a.i := by rw [makeR, if_neg k0, if_pos k1]
    by_cases hi : 0 ≤ a.i ∧ a.i < 34
    · have hn : nextM s.made a = ⟨1, a.i, 0, 0, 0, 0⟩ := by rw [nextM, if_neg k0, if_pos ⟨k1, hi⟩]
      refine main (some (v[a.i.toNat]?.getD 0)) (by rw [hn]; rfl) (.inr ⟨by rw [hn]; simp, by rw [hR]; exact var_res h.inv hv hvw hi.1 hi.2⟩) ⟨by rw [hn]; exact (by decide : (0 : Nat) < 4294967296), by rw [hn]; exact .inr (.inl ⟨rfl, hi⟩)⟩
    · refine none4 ?_ (by rw [hR, varN, if_neg hi])
      rw [nextM, if_neg k0, if_neg (fun hh => hi hh.2), if_neg (by omega), if_neg (by omega)]
  by_cases k2 : a.kind = 2
  · have hR : makeR s a = bAlu s.L a.op (atI s.ids a.x) (atI s.ids a.y) := by rw [makeR, if_neg k0, if_neg k1, if_pos k2]
    by_cases hall : (doW a.op 0 1).2 = true ∧ thereB s.made a.x = true ∧ thereB s.made a.y = true
    · obtain ⟨hk, hx, hy⟩ := hall
      have hn : nextM s.made a = ⟨2, 0, a.op, a.x, a.y, 0⟩ := by rw [nextM, if_neg k0, if_neg (fun hh => k1 hh.1), if_pos ⟨k2, hk, hx, hy⟩]
      obtain ⟨nx, mx, ex, lx, ax, bx, vx⟩ := h.there hx
      obtain ⟨ny, my, ey, ly, ay, b_y, vy⟩ := h.there hy
      have r := alu_res (v := v) (kind := a.op) (x := atI s.ids a.x) (y := atI s.ids a.y) h.inv hv hvw hk (by rw [ax]; simp [hasI]; exact bx) (by rw [ay]; simp [hasI]; exact b_y)
      rw [ax, ay, vx, vy] at r
      refine main (aluV a.op (refs v s.made)[nx]?.join (refs v s.made)[ny]?.join) ?_ (.inr ⟨by rw [hn]; simp, by rw [hR, ax, ay]; exact r⟩) ⟨by rw [hn]; exact (by decide : (0 : Nat) < 4294967296), by rw [hn]; exact .inr (.inr (.inl ⟨rfl, by simp; omega, by simp; omega, by simp; omega, by simp; omega⟩))⟩
      rw [hn, ex, ey]; rfl
    · refine none4 ?_ ?_
      · rw [nextM, if_neg k0, if_neg (fun hh => k1 hh.1), if_neg (fun hh => hall hh.2), if_neg (by omega)]
      · rw [hR, bAlu_no]
        rintro ⟨g1, g2, g3⟩
        refine hall ⟨g1, ?_, ?_⟩
        · cases e : thereB s.made a.x with
          | true => rfl
          | false => rw [h.not_there e] at g2; cases g2
        · cases e : thereB s.made a.y with
          | true => rfl
          | false => rw [h.not_there e] at g3; cases g3
  by_cases k3 : a.kind = 3
  · have hR : makeR s a = bNeg s.L (atI s.ids a.x) := by rw [makeR, if_neg k0, if_neg k1, if_neg k2, if_pos k3]
    cases hx : thereB s.made a.x with
    | true =>
      have hn : nextM s.made a = ⟨3, 0, 0, a.x, 0, 0⟩ := by rw [nextM, if_neg k0, if_neg (fun hh => k1 hh.1), if_neg (fun hh => k2 hh.1), if_pos ⟨k3, hx⟩]
      obtain ⟨nx, mx, ex, lx, ax, bx, vx⟩ := h.there hx
      have r := neg_res (v := v) (x := atI s.ids a.x) h.inv hv hvw (by rw [ax]; simp [hasI]; exact bx)
      rw [ax, vx] at r
      refine main (((refs v s.made)[nx]?.join).map negW) ?_ (.inr ⟨by rw [hn]; simp, by rw [hR, ax]; exact r⟩) ⟨by rw [hn]; exact (by decide : (0 : Nat) < 4294967296), by rw [hn]; exact .inr (.inr (.inr (.inl ⟨rfl, by simp; omega, by simp; omega⟩)))⟩
      rw [hn, ex]; rfl
    | false =>
      refine none4 ?_ ?_
      · rw [nextM, if_neg k0, if_neg (fun hh => k1 hh.1), if_neg (fun hh => k2 hh.1), if_neg (by simp [hx])]
      · rw [hR, bNeg, if_neg (by simp [h.not_there hx])]
  · refine none4 ?_ ?_
    · rw [nextM, if_neg k0, if_neg (fun hh => k1 hh.1), if_neg (fun hh => k2 hh.1), if_neg (fun hh => k3 hh.1)]
    · rw [makeR, if_neg k0, if_neg k1, if_neg k2, if_neg k3]
theorem MI.zero : MI v ⟨[], [], []⟩ := ⟨Inv.nil, rfl, fun i a h => by simp at h, fun i x a o h => by simp at h⟩
theorem MI.all (hv : v.length = 34) (hvw : ∀ c ∈ v, c < 4294967296) : ∀ (l : List Md) {s : MS}, MI v s → (∀ a ∈ l, a.c < 4294967296) → MI v (makeAll s l)
  | [], _, h, _ => h
  | a :: l, s, h, hc => MI.all hv hvw l (h.step hv hvw (hc a (by simp))) fun x hx => hc x (by simp [hx])
end Go.Ev
/- What tells two values apart. -/
namespace Go.Ev
open Go Go.RowKit
variable {G : Tbl}
set_option maxRecDepth 10000
set_option maxHeartbeats 4000000
set_option linter.unusedSimpArgs false
set_option linter.unusedVariables false
variable {H : Heap} {b z m : Nat} {L : List Nd}
/-- Where two sums first are unlike, behind the constants. -/
def fDiff (f g : List Nat) : Option Nat := (List.range 34).find? fun i => decide (f.getD (i + 1) 0 ≠ g.getD (i + 1) 0)
def fApart (f g : List Nat) : List Nat × Bool := if f.headD 0 ≠ g.headD 0 then (zeros 34, true) else match fDiff f g with
  | some i => ((zeros 34).set i 1, true)
  | none => (zeros 34, false)
theorem fApart_len (f g : List Nat) : (fApart f g).1.length = 34 := by
  rw [fApart]; split
  · simp
  · split <;> simp
theorem fApart_lt (f g : List Nat) : ∀ x ∈ (fApart f g).1, x < 4294967296 := by
  rw [fApart]; split
  · exact zeros_lt 34
  · split
    · intro x hx
      rcases List.mem_or_eq_of_mem_set hx with h | rfl
      · exact zeros_lt 34 x h
      · decide
    · exact zeros_lt 34
theorem fApart_ok [HasAffApart G] (f g : List Nat) (hf : f.length = 35) (hg : g.length = 35) : FP G 255 [.agg (cnats .u32 f), .agg (cnats .u32 g)] (.tup [.agg (cnats .u32 (fApart f g).1), .bool (fApart f g).2]) := by
  refine FP_of HasAffApart.h_affine_Apart (Nat.le_of_ble_eq_true rfl) ?_
  obtain ⟨c, t, rfl⟩ : ∃ c t, f = c :: t := by cases f with | nil => simp at hf | cons c t => exact ⟨c, t, rfl⟩
  obtain ⟨d, u, rfl⟩ : ∃ c t, g = c :: t := by cases g with | nil => simp at hg | cons c t => exact ⟨c, t, rfl⟩
  have ht : t.length = 34 := by simpa using hf
  have hu : u.length = 34 := by simpa using hg
  have hc : cnats .u32 (c :: t) = .int .u32 (c : Int) :: cnats .u32 t := rfl
  have hd : cnats .u32 (d :: u) = .int .u32 (d : Int) :: cnats .u32 u := rfl
  have htt := take_full (k := .u32) ht
  have htu := take_full (k := .u32) hu
  have dr1 : ∀ (i : Nat) (x : V) (l : List V), (x :: l).drop (1 + i) = l.drop i := fun i x l => by rw [Nat.add_comm, List.drop_succ_cons]
  have z0 : (cnats .u32 (zeros 34)).drop 34 = [] := rfl
  by_cases hcd : c = d
  case neg =>
    have hn : ((c : Int) == (d : Int)) = false := beqF (by omega)
    have hR : fApart (c :: t) (d :: u) = (zeros 34, true) := by simp [fApart, hcd]
    simp [-List.reduceReplicate, hc, hd, ht, hu, htt, htu, hn, z0, hR, bneT, hcd]
  subst hcd
  have bne : ((c : Int) != (c : Int)) = false := by simp
  simp [-List.reduceReplicate, hc, hd, ht, hu, htt, htu, z0]
  refine W_up 34 (fun i => [(3, .ptr 1 0), (4, .ptr 2 0), (6, .ptr 3 0), (16, .agg (cnats .u32 t)), (17, .int .i64 i)])
    (fun i => [some (.cells (.int .u32 (c : Int) :: cnats .u32 t)), some (.cells (.int .u32 (c : Int) :: cnats .u32 u)), some (.cells (cnats .u32 (zeros 34))), some (.cells (cnats .u32 (zeros 34)))]) (fun i => ∀ j, j < i → t.getD j 0 = u.getD j 0) ?_ ?_
  · simp [keep_cl, trunc, clL, V.cl]
  intro i hi hp
  by_cases hlt : i < 34
  · have q1 := cnats_q .u32 (get_in (show i < t.length by omega))
    have q2 := cnats_q .u32 (get_in (show i < u.length by omega))
    have e1 : t.getD i 0 = t[i]'(by omega) := by rw [List.getD_eq_getElem?_getD, get_in (by omega)]; rfl
    have e2 : u.getD i 0 = u[i]'(by omega) := by rw [List.getD_eq_getElem?_getD, get_in (by omega)]; rfl
    by_cases he : t[i]'(by omega) = u[i]'(by omega)
    · have hp' : ∀ j, j < i + 1 → t.getD j 0 = u.getD j 0 := fun j hj => by
        by_cases e : j = i
        · subst e; rw [e1, e2, he]
        · exact hp j (by omega)
      simp (disch := omega) [ltT, ltF, leF, leFn, leTn, hlt, ht, hu, q1, q2, dr1, he, add1', -Int.natCast_add, keep_cl, trunc, clL, V.cl]
      simpa using hp'
    · have hb : ((t[i]'(by omega) : Nat) : Int) ≠ ((u[i]'(by omega) : Nat) : Int) := by omega
      have hfd : fDiff (c :: t) (c :: u) = some i := by
        rw [fDiff, List.find?_range_eq_some]
        refine ⟨?_, List.mem_range.2 hlt, fun j hj => ?_⟩
        · simp only [List.getD_cons_succ, e1, e2]; simpa using he
        · have := hp j hj
          simp only [List.getD_cons_succ]; simpa using this
      have hR : fApart (c :: t) (c :: u) = ((zeros 34).set i 1, true) := by simp [fApart, hfd]
      have cs := cnats_set .u32 (zeros 34) i 1 (by simpa using hlt)
      have hts : (cnats .u32 ((zeros 34).set i 1)).take 34 = cnats .u32 ((zeros 34).set i 1) := take_full (by simp)
      simp (disch := omega) [-List.reduceReplicate, ltT, ltF, leF, leFn, leTn, hlt, ht, hu, q1, q2, dr1, bneT hb, hR, z0]
      simp at cs
      simp (disch := omega) [-List.reduceReplicate, cs, hts, z0, leTn, hlt]
  · obtain rfl : i = 34 := by omega
    have hfd : fDiff (c :: t) (c :: u) = none := by
      rw [fDiff, List.find?_eq_none]
      intro j hj
      have := hp j (List.mem_range.1 hj)
      simp only [List.getD_cons_succ]; simpa using this
    have hR : fApart (c :: t) (c :: u) = (zeros 34, false) := by simp [fApart, hfd]
    simp [-List.reduceReplicate, hR, z0]
theorem dot_comm : ∀ f v : List Nat, dot f v = dot v f
  | [], [] => rfl
  | [], _ :: _ => by simp [dot]
  | _ :: _, [] => by simp [dot]
  | a :: f, b :: v => by simp only [dot, dot_comm f v, Int.mul_comm]
theorem fEval_zeros {c : Nat} {t : List Nat} (ht : t.length = 34) (hc : c < 4294967296) : fEval (c :: t) (zeros 34) = c := by
  have h := fEval_dot (c := c) ht (v := zeros 34) (by simp)
  rw [dot_comm, dot_zeros] at h
  omega
theorem fEval_unit {c i : Nat} {t : List Nat} (ht : t.length = 34) (hi : i < 34) : (fEval (c :: t) ((zeros 34).set i 1) : Int) = ((c : Int) + (t[i]'(by omega) : Nat)) % 4294967296 := by
  have h := fEval_dot (c := c) ht (v := (zeros 34).set i 1) (by simp)
  rw [dot_comm, dot_one 34 i t (by omega) hi] at h
  exact h
/-- What tells two sums apart does so. -/
theorem fApart_tells {f g : List Nat} (hf : f.length = 35) (hg : g.length = 35) (hfw : ∀ x ∈ f, x < 4294967296) (hgw : ∀ x ∈ g, x < 4294967296) (h : (fApart f g).2 = true) : fEval f (fApart f g).1 ≠ fEval g (fApart f g).1 := by
  obtain ⟨c, t, rfl, ht⟩ := head_tail hf
  obtain ⟨d, u, rfl, hu⟩ := head_tail hg
  have hc := hfw c (by simp)
  have hd := hgw d (by simp)
  by_cases hcd : c = d
  · subst hcd
    cases hfd : fDiff (c :: t) (c :: u) with
    | none => simp [fApart, hfd] at h
    | some i =>
      have hR : (fApart (c :: t) (c :: u)).1 = (zeros 34).set i 1 := by simp [fApart, hfd]
      rw [hR]
      have hi : i < 34 := List.mem_range.1 (List.mem_of_find?_eq_some hfd)
      have hne := List.find?_some hfd
      simp only [List.getD_cons_succ, decide_eq_true_eq] at hne
      rw [List.getD_eq_getElem?_getD, List.getD_eq_getElem?_getD, get_in (by omega), get_in (by omega)] at hne
      simp only [Option.getD_some] at hne
      have e1 := fEval_unit (c := c) ht hi
      have e2 := fEval_unit (c := c) hu hi
      have w1 := hfw (t[i]'(by omega)) (by simp)
      have w2 := hgw (u[i]'(by omega)) (by simp)
      intro e
      rw [e] at e1
      rw [e1] at e2
      omega
  · have hR : (fApart (c :: t) (d :: u)).1 = zeros 34 := by simp [fApart, hcd]
    rw [hR, fEval_zeros ht hc, fEval_zeros hu hd]
    exact hcd
theorem fApart_none {f g : List Nat} (hf : f.length = 35) (hg : g.length = 35) (h : (fApart f g).2 = false) : f = g := by
  obtain ⟨c, t, rfl, ht⟩ := head_tail hf
  obtain ⟨d, u, rfl, hu⟩ := head_tail hg
  by_cases hcd : c = d
  · subst hcd
    cases hfd : fDiff (c :: t) (c :: u) with
    | some i => simp [fApart, hfd] at h
    | none =>
      rw [fDiff, List.find?_range_eq_none] at hfd
      congr 1
      apply List.ext_getElem (by omega)
      intro i h1 h2
      have := hfd i (by omega)
      simp only [List.getD_cons_succ] at this
      rw [List.getD_eq_getElem?_getD, List.getD_eq_getElem?_getD, get_in (by omega), get_in (by omega)] at this
      simpa using this
  · simp [fApart, hcd] at h
theorem x_asg {M : List Int} {p : Int → Bool} {v : Int} (hv : v ∈ M) (h0 : 0 ≤ v) (h1 : v < 34) : asg (asgn M p) v = if p v then 4294967295 else 0 := by
  have h2 : v.toNat < 34 := by omega
  have h3 : ((v.toNat : Nat) : Int) = v := by omega
  simp [asg, asgn, List.getD_eq_getElem?_getD, h2, h3, hv]
theorem x_asgn_lt (M : List Int) (p : Int → Bool) : ∀ w ∈ asgn M p, w < 4294967296 := by
  intro w hw
  simp only [asgn, List.mem_map] at hw
  obtain ⟨i, _, rfl⟩ := hw
  split <;> omega
theorem x_val {fv M : List Int} {ft : List Nat} (hft : ∀ w ∈ ft, w < 4294967296) (hs : ∀ v ∈ fv, v ∈ M ∧ 0 ≤ v ∧ v < 34) (p : Int → Bool) : val fv ft (asg (asgn M p)) = sem fv ft p :=
  val_full hft p fun v hv => x_asg (hs v hv).1 (hs v hv).2.1 (hs v hv).2.2
/-- What tells bits apart. -/
theorem bApart_is {fv gv : List Int} {ft gt : List Nat} (Rf : Right fv ft) (Rg : Right gv gt) (hft : ∀ w ∈ ft, w < 4294967296) (hgt : ∀ w ∈ gt, w < 4294967296) :
    ((apartF fv gv ft gt).2 = true ∧ val fv ft (asg (apartF fv gv ft gt).1) ≠ val gv gt (asg (apartF fv gv ft gt).1)) ∨ (fv = gv ∧ ft = gt ∧ (apartF fv gv ft gt).2 = false) := by
  have hrf := rightB_iff.2 Rf
  have hrg := rightB_iff.2 Rg
  cases h : firstD fv gv ft gt with
  | some n =>
    left
    have hR : apartF fv gv ft gt = (asgn (mer fv gv) (say (mer fv gv) n), true) := by simp [apartF, hrf, hrg, h]
    have hne := List.find?_some h
    rw [hR]
    refine ⟨rfl, ?_⟩
    simp only
    rw [x_val hft (fun v hv => ⟨(mem_mer fv gv).2 (.inl hv), Rf.mem hv⟩), x_val hgt (fun v hv => ⟨(mem_mer fv gv).2 (.inr hv), Rg.mem hv⟩)]
    simpa using hne
  | none =>
    right
    have h' := h
    rw [firstD, List.find?_range_eq_none] at h
    have : fv = gv ∧ ft = gt := canon Rf Rg fun p => by
      have e1 : sem fv ft (say (mer fv gv) (idx (mer fv gv) p)) = sem fv ft p := sem_ext fun v hv => say_idx ((mem_mer _ _).2 (.inl hv)) p
      have e2 : sem gv gt (say (mer fv gv) (idx (mer fv gv) p)) = sem gv gt p := sem_ext fun v hv => say_idx ((mem_mer _ _).2 (.inr hv)) p
      have := h (idx (mer fv gv) p) (idx_lt _ p)
      rw [e1, e2] at this
      simpa using this
    exact ⟨this.1, this.2, by simp [apartF, hrf, hrg, h']⟩
theorem apartF_len (fv gv : List Int) (ft gt : List Nat) : (apartF fv gv ft gt).1.length = 34 := by
  simp only [apartF]
  split
  · split <;> simp [asgn]
  · simp
theorem apartF_lt (fv gv : List Int) (ft gt : List Nat) : ∀ x ∈ (apartF fv gv ft gt).1, x < 4294967296 := by
  simp only [apartF]
  split
  · split
    · exact x_asgn_lt _ _
    · exact zeros_lt 34
  · exact zeros_lt 34
/-- What tells two values of a book apart. -/
noncomputable def apN (a c : Nd) : List Nat × Bool := if a.kind = 0 ∧ c.kind = 0 then fApart a.f c.f else match asB a, asB c with
  | some p, some q => apartF p.1 q.1 p.2 q.2
  | _, _ => (zeros 34, false)
noncomputable def apB (L : List Nd) (x y : Int) : List Nat × Bool := if hasI L x = true ∧ hasI L y = true ∧ x ≠ y then (match L[x.toNat]?, L[y.toNat]? with
  | some a, some c => apN a c
  | _, _ => (zeros 34, false)) else (zeros 34, false)
theorem apN_len (a c : Nd) : (apN a c).1.length = 34 ∧ ∀ x ∈ (apN a c).1, x < 4294967296 := by
  rw [apN]
  split
  · exact ⟨fApart_len _ _, fApart_lt _ _⟩
  · split
    · exact ⟨apartF_len _ _ _ _, apartF_lt _ _ _ _⟩
    · exact ⟨by simp, zeros_lt 34⟩
theorem apB_len (L : List Nd) (x y : Int) : (apB L x y).1.length = 34 ∧ ∀ c ∈ (apB L x y).1, c < 4294967296 := by
  rw [apB]
  split
  · split
    · exact apN_len _ _
    · exact ⟨by simp, zeros_lt 34⟩
  · exact ⟨by simp, zeros_lt 34⟩
theorem apB_at {x y : Nat} {a c : Nd} (hx : L[x]? = some a) (hy : L[y]? = some c) (hne : x ≠ y) : apB L x y = apN a c := by
  have h1 := (List.getElem?_eq_some_iff.1 hx).1
  have h2 := (List.getElem?_eq_some_iff.1 hy).1
  rw [apB, if_pos ⟨by simp [hasI]; exact h1, by simp [hasI]; exact h2, by omega⟩, Int.toNat_natCast, Int.toNat_natCast, hx, hy]
/-- It tells them apart. -/
theorem apB_tells {x y : Int} (hi : Inv L) (h : (apB L x y).2 = true) : hasI L x = true ∧ hasI L y = true ∧ x ≠ y ∧ ∃ a c : Nat, valI (apB L x y).1 L x = some a ∧ valI (apB L x y).1 L y = some c ∧ a ≠ c := by
  by_cases hc : hasI L x = true ∧ hasI L y = true ∧ x ≠ y
  case neg => rw [apB, if_neg hc] at h; cases h
  refine ⟨hc.1, hc.2.1, hc.2.2, ?_⟩
  obtain ⟨hx0, hx1⟩ : 0 ≤ x ∧ x < L.length := by simpa [hasI] using hc.1
  obtain ⟨hy0, hy1⟩ : 0 ≤ y ∧ y < L.length := by simpa [hasI] using hc.2.1
  obtain ⟨xn, rfl⟩ := Int.eq_ofNat_of_zero_le hx0
  obtain ⟨yn, rfl⟩ := Int.eq_ofNat_of_zero_le hy0
  obtain ⟨a, ha⟩ : ∃ a, L[xn]? = some a := ⟨_, get_in (by omega)⟩
  obtain ⟨c, hcc⟩ : ∃ c, L[yn]? = some c := ⟨_, get_in (by omega)⟩
  have hne : xn ≠ yn := fun e => hc.2.2 (by rw [e])
  rw [apB_at ha hcc hne] at h ⊢
  obtain ⟨vl, vw⟩ := apN_len a c
  have hga := hi.good _ _ ha
  have hgc := hi.good _ _ hcc
  rw [valI_at hi ha, valI_at hi hcc]
  by_cases hk : a.kind = 0 ∧ c.kind = 0
  · have hR : apN a c = fApart a.f c.f := by rw [apN, if_pos hk]
    rw [nval, if_pos hk.1, nval, if_pos hk.2]
    rw [hR] at h ⊢
    exact ⟨_, _, rfl, rfl, fApart_tells hga.1.1 hgc.1.1 hga.2.1.1 hgc.2.1.1 h⟩
  · cases ea : asB a with
    | none => rw [apN, if_neg hk, ea] at h; cases h
    | some p =>
      cases ec : asB c with
      | none => rw [apN, if_neg hk, ea, ec] at h; cases h
      | some q =>
        have hR : apN a c = apartF p.1 q.1 p.2 q.2 := by rw [apN, if_neg hk, ea, ec]
        obtain ⟨r1, w1⟩ := asB_right hga.2.1 ea
        obtain ⟨r2, w2⟩ := asB_right hgc.2.1 ec
        rw [nval_asB hga.1 hga.2.1 ea vl vw, nval_asB hgc.1 hgc.2.1 ec vl vw]
        rw [hR] at h ⊢
        rcases bApart_is r1 r2 w1 w2 with ⟨_, h2⟩ | ⟨_, _, h2⟩
        · exact ⟨_, _, rfl, rfl, h2⟩
        · rw [h2] at h; cases h
theorem Apart_F [HasAffApart G] [HasAffine G] [hA : HasBitsA G] [HasSym G] [HasSymApart G] (x y : Int) (h : Bk H b z m L) (hi : Inv L) : SF G 277 [.ptr b 0, .int .i64 x, .int .i64 y] H (.tup [.agg (cnats .u32 (apB L x y).1), .bool (apB L x y).2]) H := by
  haveI : HasBits G := hA.toHasBits
  refine SF_of HasSymApart.h_sym_Book_Apart (Nat.le_of_ble_eq_true rfl) ?_
  obtain ⟨Z, hZ⟩ : ∃ Z, Z = cnats .u32 (zeros 34) := ⟨_, rfl⟩
  have lZ : Z.length = 34 := by rw [hZ]; simp
  have dZ : Z.drop 34 = [] := List.drop_eq_nil_of_le (by omega)
  have tZ : Z.take 34 = Z := List.take_of_length_le (by omega)
  have kZ : ∀ n, clL n Z = Z := fun n => by rw [hZ]; simp
  have hRn : ∀ n, Option.map (Blk.cl n) (some (.cells Z)) = some (.cells Z) := fun n => by simp [Blk.cl, kZ]
  have h2 : Bk (H ++ [some (.cells Z), some (.cells Z)]) b z m L := h.app fun n => by simp [Blk.cl, kZ]
  have hs2 := h2.shut.self
  have hsh := h.shut.back
  simp at hs2
  simp [← hZ, -List.reduceReplicate]
  refine callSF_of (hasF_ok x h2) ?_
  cases hx : hasI L x with
  | false =>
    have hR : apB L x y = (zeros 34, false) := by rw [apB, if_neg (by simp [hx])]
    simp [hR, ← hZ, lZ, dZ, tZ, ap0, apk, set0, setk, hs2, hsh, kZ]
  | true =>
    simp [hs2]
    refine callSF_of (hasF_ok y h2) ?_
    cases hy : hasI L y with
    | false =>
      have hR : apB L x y = (zeros 34, false) := by rw [apB, if_neg (by simp [hy])]
      simp [hR, ← hZ, lZ, dZ, tZ, ap0, apk, set0, setk, hs2, hsh, kZ]
    | true =>
      by_cases hxy : x = y
      · subst hxy
        have hR : apB L x x = (zeros 34, false) := by rw [apB, if_neg (by simp)]
        simp [hR, ← hZ, lZ, dZ, tZ, ap0, apk, set0, setk, hs2, hsh, kZ]
      have hbe : (x == y) = false := beqF hxy
      obtain ⟨hx0, hx1⟩ : 0 ≤ x ∧ x < L.length := by simpa [hasI] using hx
      obtain ⟨hy0, hy1⟩ : 0 ≤ y ∧ y < L.length := by simpa [hasI] using hy
      obtain ⟨xn, rfl⟩ := Int.eq_ofNat_of_zero_le hx0
      obtain ⟨yn, rfl⟩ := Int.eq_ofNat_of_zero_le hy0
      obtain ⟨a, ha⟩ : ∃ a, L[xn]? = some a := ⟨_, get_in (by omega)⟩
      obtain ⟨c, hc⟩ : ∃ c, L[yn]? = some c := ⟨_, get_in (by omega)⟩
      have hga := hi.good _ _ ha
      have hgc := hi.good _ _ hc
      have hR : apB L xn yn = apN a c := apB_at ha hc (fun e => hxy (by rw [e]))
      have hRl := apN_len a c
      rw [hR]
      have hd35 : (cnats .u32 (zeros 35)).drop 35 = [] := rfl
      have ta := take_full (k := .u32) hga.1.1
      have tc := take_full (k := .u32) hgc.1.1
      have hb' : ∀ r : Heap, (∀ n, r.map (Option.map (Blk.cl n)) = r) → Bk (H ++ some (.cells Z) :: some (.cells Z) :: r) b z m L := fun r hr => h.app fun n => by simp [Blk.cl, kZ, hr n]
      have hs' : ∀ r : Heap, (∀ n, r.map (Option.map (Blk.cl n)) = r) → trunc (H.length + (r.length + 1 + 1)) (H ++ some (.cells Z) :: some (.cells Z) :: r) = H ++ some (.cells Z) :: some (.cells Z) :: r := fun r hr => by
        have := (hb' r hr).shut.self
        simpa using this
      simp [hbe, hxy, hs2, -List.reduceReplicate]
      refine callSF_of (asSumF_ok xn a (hb' [none] fun n => by simp) ha) ?_
      have s1 := hs' [some (.cells (cnats .u32 a.f))] fun n => by simp [Blk.cl]
      simp at s1
      simp [hga.1.1, ta, hd35, ap0, apk, set0, setk, s1]
      refine callSF_of (asSumF_ok yn c (hb' [some (.cells (cnats .u32 a.f)), none] fun n => by simp [Blk.cl]) hc) ?_
      have s2 := hs' [some (.cells (cnats .u32 a.f)), some (.cells (cnats .u32 c.f))] fun n => by simp [Blk.cl]
      simp at s2
      simp [hga.1.1, ta, hgc.1.1, tc, hd35, ap0, apk, set0, setk, s2]
      obtain ⟨A, hA'⟩ : ∃ A, A = apN a c := ⟨_, rfl⟩
      rw [← hA'] at hRl ⊢
      have tA := take_full (k := .u32) hRl.1
      by_cases hk : a.kind = 0 ∧ c.kind = 0
      · have hAe : A = fApart a.f c.f := by rw [hA', apN, if_pos hk]
        have hf := fApart_ok (G := G) a.f c.f hga.1.1 hgc.1.1
        rw [← hAe] at hf
        simp [hk.1, hk.2, hga.1.1, ta, hgc.1.1, tc, hd35, ap0, apk, set0, setk, s2]
        refine callP_of hf ?_
        simp [hRl.1, tA, lZ, dZ, ap0, apk, set0, setk, hsh]
      · have hkb : (decide (a.kind = 0) && decide (c.kind = 0)) = false := by
          rw [Bool.and_eq_false_iff]
          by_cases h1 : a.kind = 0
          · right; simpa using fun h2 => hk ⟨h1, h2⟩
          · left; simpa using h1
        have b1 := hb' [some (.cells (cnats .u32 a.f)), some (.cells (cnats .u32 c.f)), none] fun n => by simp [Blk.cl]
        have b2 := hb' [some (.cells (cnats .u32 a.f)), some (.cells (cnats .u32 c.f)), some (.cells (asBC (asB a))), none] fun n => by simp [Blk.cl, asBC_cl]
        have s3 := hs' [some (.cells (cnats .u32 a.f)), some (.cells (cnats .u32 c.f)), some (.cells (asBC (asB a)))] fun n => by simp [Blk.cl, asBC_cl]
        have s4 := hs' [some (.cells (cnats .u32 a.f)), some (.cells (cnats .u32 c.f)), some (.cells (asBC (asB a))), some (.cells (asBC (asB c)))] fun n => by simp [Blk.cl, asBC_cl]
        simp at s3 s4
        have fin : ∀ (p q : Option (List Int × List Nat)), asB a = p → asB c = q → (p.isSome = true → q.isSome = true → ∃ p' q', p = some p' ∧ q = some q' ∧ A = apartF p'.1 q'.1 p'.2 q'.2) ∧ ((p.isSome && q.isSome) = false → A = (zeros 34, false)) := fun p q ep eq => by
          have hAe := hA'
          rw [apN, if_neg hk, ep, eq] at hAe
          cases p <;> cases q <;> simp at hAe ⊢ <;> exact hAe
        by_cases h1 : a.kind = 0
        · have h2 : ¬ c.kind = 0 := fun h2 => hk ⟨h1, h2⟩
          simp [h1, hga.1.1, ta, hgc.1.1, tc, hd35, ap0, apk, set0, setk, s2]
          simp [h2, ap0, apk, set0, setk]
          refine callSF_of (asBitsF_ok xn a b1 ha hga.2.1) ?_
          simp [asBV_eq, asBC_len, asBC_tk, ap0, apk, set0, setk, s3]
          refine callSF_of (asBitsF_ok yn c b2 hc hgc.2.1) ?_
          simp [asBV_eq, asBC_len, asBC_tk, ap0, apk, set0, setk, s4]
          cases ea : asB a with
          | none =>
            have hAe := (fin _ _ ea rfl).2 rfl
            simp [hAe, ← hZ, lZ, dZ, tZ, ap0, apk, set0, setk, hsh, kZ]
          | some p =>
            cases ec : asB c with
            | none =>
              have hAe := (fin _ _ ea ec).2 rfl
              simp [hAe, ← hZ, lZ, dZ, tZ, ap0, apk, set0, setk, hsh, kZ]
            | some q =>
              obtain ⟨_, _, e1, e2, hAe⟩ := (fin _ _ ea ec).1 rfl rfl
              cases e1; cases e2
              obtain ⟨hp, hpw⟩ := asB_right hga.2.1 ea
              obtain ⟨hq, hqw⟩ := asB_right hgc.2.1 ec
              have l1 := hp.1
              have l2 := hq.1
              have l3 := tab_small l1 hp.2.1
              have l4 := tab_small l2 hq.2.1
              have hap := Apart_ok hA p.1 q.1 p.2 q.2 (by omega) (by omega) (by omega) (by omega) hpw hqw
              rw [← hAe] at hap
              simp only [FV] at hap
              simp [asBC, ap0, apk, set0, setk]
              refine callP_of hap ?_
              simp [hRl.1, tA, lZ, dZ, ap0, apk, set0, setk, hsh]
        · simp [h1, hga.1.1, ta, hgc.1.1, tc, hd35, ap0, apk, set0, setk, s2]
          refine callSF_of (asBitsF_ok xn a b1 ha hga.2.1) ?_
          simp [asBV_eq, asBC_len, asBC_tk, ap0, apk, set0, setk, s3]
          refine callSF_of (asBitsF_ok yn c b2 hc hgc.2.1) ?_
          simp [asBV_eq, asBC_len, asBC_tk, ap0, apk, set0, setk, s4]
          cases ea : asB a with
          | none =>
            have hAe := (fin _ _ ea rfl).2 rfl
            simp [hAe, ← hZ, lZ, dZ, tZ, ap0, apk, set0, setk, hsh, kZ]
          | some p =>
            cases ec : asB c with
            | none =>
              have hAe := (fin _ _ ea ec).2 rfl
              simp [hAe, ← hZ, lZ, dZ, tZ, ap0, apk, set0, setk, hsh, kZ]
            | some q =>
              obtain ⟨_, _, e1, e2, hAe⟩ := (fin _ _ ea ec).1 rfl rfl
              cases e1; cases e2
              obtain ⟨hp, hpw⟩ := asB_right hga.2.1 ea
              obtain ⟨hq, hqw⟩ := asB_right hgc.2.1 ec
              have l1 := hp.1
              have l2 := hq.1
              have l3 := tab_small l1 hp.2.1
              have l4 := tab_small l2 hq.2.1
              have hap := Apart_ok hA p.1 q.1 p.2 q.2 (by omega) (by omega) (by omega) (by omega) hpw hqw
              rw [← hAe] at hap
              simp only [FV] at hap
              simp [asBC, ap0, apk, set0, setk]
              refine callP_of hap ?_
              simp [hRl.1, tA, lZ, dZ, ap0, apk, set0, setk, hsh]
end Go.Ev
/- Values of sums and of bits are told apart wherever they are not one: plain laws. -/
namespace Go.Ev
open Go Go.RowKit
set_option maxRecDepth 10000
set_option maxHeartbeats 4000000
set_option linter.unusedSimpArgs false
set_option linter.unusedVariables false
variable {L L' L'' : List Nd}
/-- A value as the book makes it. -/
def Nd.pl (a : Nd) : Prop := (a.kind = 0 → a = sumNd a.f) ∧ (a.kind = 1 → ∃ fv ft, a = bitNd fv ft ∧ Right fv ft ∧ fv ≠ [] ∧ ∀ i, fv = [i] → ft ≠ [0, ones] ∧ ft ≠ [ones, 0])
theorem sum_pl (f : List Nat) : (sumNd f).pl := ⟨fun _ => rfl, fun h => by cases h⟩
theorem deed_pl (k : Int) (x y : Nat) : (deedNd k x y).pl := ⟨fun h => (by cases h), fun h => by cases h⟩
def Grow (L L' : List Nd) : Prop := ∀ a ∈ L', a ∈ L ∨ a.pl
theorem Grow.refl : Grow L L := fun a h => .inl h
theorem Grow.trans (h : Grow L L') (k : Grow L' L'') : Grow L L'' := fun a ha => by
  rcases k a ha with h1 | h1
  · exact h a h1
  · exact .inr h1
theorem put_grow {a : Nd} (h : a.pl) : Grow L (putN L a).2 := by
  intro x hx
  rw [show (putN L a).2 = insN L a from rfl, insN] at hx
  split at hx
  · exact .inl hx
  · rcases List.mem_append.1 hx with h1 | h1
    · exact .inl h1
    · rw [List.mem_singleton.1 h1]; exact .inr h
theorem sums_grow (kind : Int) (a c : Nd) : Grow L (sumsN L kind a c).2.2 := by
  rw [sumsN]
  split
  case isFalse => exact .refl
  split
  · exact put_grow (sum_pl _)
  · split
    · exact put_grow (sum_pl _)
    · split
      · split
        · exact put_grow (sum_pl _)
        · split
          · exact put_grow (sum_pl _)
          · exact put_grow (sum_pl _)
      · split
        · exact put_grow (sum_pl _)
        · split
          · exact put_grow (sum_pl _)
          · exact .refl
      · split
        · exact put_grow (sum_pl _)
        · exact .refl
      · exact .refl
theorem bitsN_grow {fv : List Int} {ft : List Nat} (h : Right fv ft) : Grow L (bitsN L fv ft).2 := by
  match fv, h with
  | [], h => exact put_grow (sum_pl _)
  | [i], h =>
    rw [bitsN]
    split
    · exact put_grow (sum_pl _)
    · split
      · exact put_grow (sum_pl _)
      · rename_i h1 h2
        exact put_grow ⟨fun h => (by cases h), fun _ => ⟨[i], ft, rfl, h, by simp, fun j hj => ⟨h1, h2⟩⟩⟩
  | i :: j :: fv, h => exact put_grow ⟨fun h => (by cases h), fun _ => ⟨i :: j :: fv, ft, rfl, h, by simp, fun k hk => by cases hk⟩⟩
theorem both_grow {kind : Int} {a c : Nd} : Grow L (bothN L kind a c).2.2 := by
  cases e1 : asB a with
  | none => simp only [bothN, e1, noR]; exact .refl
  | some p =>
    cases e2 : asB c with
    | none => simp only [bothN, e1, e2, noR]; exact .refl
    | some q =>
      cases e3 : bdo kind p q with
      | none => simp only [bothN, e1, e2, e3, noR]; exact .refl
      | some r =>
        simp only [bothN, e1, e2, e3, okP]
        exact bitsN_grow (bdo_some e3).2.1
theorem alu_grow {kind x y : Int} : Grow L (bAlu L kind x y).2 := by
  rw [bAlu]
  split
  case isFalse => exact .refl
  split
  · rename_i a c _ _
    rw [bAlu2]
    have e1 := sums_grow (L := L) kind a c
    split
    · exact e1
    · split
      · exact e1.trans both_grow
      · split
        · exact e1
        · split
          · exact e1
          · split
            · exact e1.trans (put_grow (deed_pl _ _ _))
            · exact e1.trans (put_grow (deed_pl _ _ _))
  · exact .refl
theorem var_grow {i : Int} : Grow L (varN L i).2 := by
  rw [varN]
  split
  · exact put_grow (sum_pl _)
  · exact .refl
theorem neg_grow {x : Int} : Grow L (bNeg L x).2 := by
  rw [bNeg]
  split
  · exact Grow.trans (L' := (negN' L).2) (put_grow (sum_pl _)) alu_grow
  · exact .refl
/-- A book of values as it makes them. -/
def Pl (L : List Nd) : Prop := ∀ a ∈ L, a.pl
theorem Pl.nil : Pl [] := fun a h => by cases h
theorem Pl.grow (h : Pl L) (g : Grow L L') : Pl L' := fun a ha => by
  rcases g a ha with h1 | h1
  · exact h a h1
  · exact h1
theorem bit_asB {fv : List Int} {ft : List Nat} (h : Right fv ft) : asB (bitNd fv ft) = some (fv, ft) := by
  obtain ⟨e1, e2⟩ := bitNd_back (right_nn h) h.2.1
  rw [asB, if_pos (show (bitNd fv ft).kind = 1 from rfl), e1, e2]
theorem asB_kind {a : Nd} {p : List Int × List Nat} (h : asB a = some p) : a.kind = 0 ∨ a.kind = 1 := by
  rw [asB] at h
  split at h
  · exact .inr (by assumption)
  · split at h
    · exact .inl (by assumption)
    · cases h
theorem asB_sum {a : Nd} {p : List Int × List Nat} (hk : a.kind = 0) (h : asB a = some p) : p.1 = [] ∨ ∃ i : Nat, p.1 = [(i : Int)] ∧ (p.2 = [0, ones] ∨ p.2 = [ones, 0]) := by
  rw [asB, if_neg (by omega), if_pos hk] at h
  split at h
  · cases h; exact .inl rfl
  · split at h
    · cases h; exact .inr ⟨_, rfl, .inl rfl⟩
    · split at h
      · cases h; exact .inr ⟨_, rfl, .inr rfl⟩
      · cases h
theorem Inv.inj (h : Inv L) {x y : Nat} {a : Nd} (hx : L[x]? = some a) (hy : L[y]? = some a) : x = y := by
  obtain ⟨h1, e1⟩ := List.getElem?_eq_some_iff.1 hx
  obtain ⟨h2, e2⟩ := List.getElem?_eq_some_iff.1 hy
  have hp := List.pairwise_iff_getElem.1 h.one
  rcases Nat.lt_trichotomy x y with hl | hl | hl
  · exact absurd (e1.trans e2.symm) (hp x y h1 h2 hl)
  · exact hl
  · exact absurd (e2.trans e1.symm) (hp y x h2 h1 hl)
/-- Two sums, or two bits, that are not one are told apart. -/
theorem apB_exact {x y : Nat} {a c : Nd} (hi : Inv L) (hp : Pl L) (hx : L[x]? = some a) (hy : L[y]? = some c) (hne : x ≠ y) (hk : a.kind = 0 ∧ c.kind = 0 ∨ (asB a).isSome = true ∧ (asB c).isSome = true) : (apB L x y).2 = true := by
  rw [apB_at hx hy hne]
  have hga := hi.good _ _ hx
  have hgc := hi.good _ _ hy
  have hpa := hp a (List.mem_of_getElem? hx)
  have hpc := hp c (List.mem_of_getElem? hy)
  have hac : a ≠ c := fun e => by subst e; exact hne (hi.inj hx hy)
  by_cases hs : a.kind = 0 ∧ c.kind = 0
  · rw [apN, if_pos hs]
    cases h : (fApart a.f c.f).2 with
    | true => rfl
    | false =>
      exfalso
      have e := fApart_none hga.1.1 hgc.1.1 h
      have e1 := hpa.1 hs.1
      have e2 := hpc.1 hs.2
      rw [e, ← e2] at e1
      exact hac e1
  · rcases hk with hk | ⟨h1, h2⟩
    · exact absurd hk hs
    obtain ⟨p, ep⟩ := Option.isSome_iff_exists.1 h1
    obtain ⟨q, eq⟩ := Option.isSome_iff_exists.1 h2
    rw [apN, if_neg hs, ep, eq]
    obtain ⟨r1, w1⟩ := asB_right hga.2.1 ep
    obtain ⟨r2, w2⟩ := asB_right hgc.2.1 eq
    rcases bApart_is r1 r2 w1 w2 with ⟨h, _⟩ | ⟨e1, e2, h⟩
    · exact h
    · exfalso
      have eqp : p = q := Prod.ext e1 e2
      subst eqp
      -- a sum's bits are no bits of the other kind
      have mix : ∀ (u v : Nd), u.pl → u.kind = 1 → v.kind = 0 → asB u = some p → asB v = some p → False := fun u v hu ku kv eu ev => by
        obtain ⟨fv, ft, rfl, hR, hn, h1⟩ := hu.2 ku
        rw [bit_asB hR] at eu
        cases eu
        rcases asB_sum kv ev with h | ⟨i, h, h'⟩
        · exact hn h
        · rcases h' with h' | h'
          · exact (h1 _ h).1 h'
          · exact (h1 _ h).2 h'
      rcases asB_kind ep with ka | ka <;> rcases asB_kind eq with kc | kc
      · exact hs ⟨ka, kc⟩
      · exact mix c a hpc kc ka eq ep
      · exact mix a c hpa ka kc ep eq
      · obtain ⟨fv, ft, ea, hR, _⟩ := hpa.2 ka
        obtain ⟨fv', ft', ec, hR', _⟩ := hpc.2 kc
        rw [ea, bit_asB hR] at ep
        rw [ec, bit_asB hR'] at eq
        have e3 := Option.some.inj (ep.trans eq.symm)
        simp only [Prod.mk.injEq] at e3
        rw [e3.1, e3.2, ← ec] at ea
        exact hac ea
/-! Which numbers are sums, and which are bits of some variables. -/
def IsSum (L : List Nd) (x : Int) : Prop := ∃ (n : Nat) (a : Nd), x = n ∧ L[n]? = some a ∧ a.kind = 0
def IsBit (L : List Nd) (x : Int) (P : Int → Prop) : Prop := ∃ (n : Nat) (a : Nd) (p : List Int × List Nat), x = n ∧ L[n]? = some a ∧ asB a = some p ∧ ∀ v ∈ p.1, P v
theorem IsSum.pre {x : Int} (h : IsSum L x) (e : L <+: L') : IsSum L' x := by obtain ⟨n, a, h1, h2, h3⟩ := h; exact ⟨n, a, h1, pre_get e h2, h3⟩
theorem IsBit.pre {x : Int} {P : Int → Prop} (h : IsBit L x P) (e : L <+: L') : IsBit L' x P := by obtain ⟨n, a, p, h1, h2, h3⟩ := h; exact ⟨n, a, p, h1, pre_get e h2, h3⟩
theorem IsBit.mono {x : Int} {P Q : Int → Prop} (h : IsBit L x P) (k : ∀ v, P v → Q v) : IsBit L x Q := by obtain ⟨n, a, p, h1, h2, h3, h4⟩ := h; exact ⟨n, a, p, h1, h2, h3, fun v hv => k v (h4 v hv)⟩
theorem IsSum.has {x : Int} (h : IsSum L x) : hasI L x = true := by obtain ⟨n, a, rfl, h2, _⟩ := h; simp [hasI]; exact (List.getElem?_eq_some_iff.1 h2).1
theorem IsBit.has {x : Int} {P : Int → Prop} (h : IsBit L x P) : hasI L x = true := by obtain ⟨n, a, p, rfl, h2, _⟩ := h; simp [hasI]; exact (List.getElem?_eq_some_iff.1 h2).1
theorem put_at (L : List Nd) (a : Nd) : ∃ n : Nat, (putN L a).1 = n ∧ (putN L a).2[n]? = some a := by
  refine ⟨L.idxOf a, rfl, ?_⟩
  rw [show (putN L a).2 = insN L a from rfl, insN]
  split
  · rename_i hm
    rw [List.getElem?_eq_getElem (List.idxOf_lt_length_of_mem hm), List.getElem_idxOf]
  · rename_i hm
    rw [idxOf_out hm]; simp
theorem put_sum (L : List Nd) (f : List Nat) : IsSum (putN L (sumNd f)).2 (putN L (sumNd f)).1 := by
  obtain ⟨n, h1, h2⟩ := put_at L (sumNd f)
  exact ⟨n, _, h1, h2, rfl⟩
theorem const_bit (L : List Nd) (c : Nat) (P : Int → Prop) : IsBit (putN L (sumNd (c :: zeros 34))).2 (putN L (sumNd (c :: zeros 34))).1 P := by
  obtain ⟨n, h1, h2⟩ := put_at L (sumNd (c :: zeros 34))
  exact ⟨n, _, ([], [c]), h1, h2, by simp [asB, sumNd, Nd0, fConst], fun v hv => by cases hv⟩
theorem var_sum {i : Int} (h0 : 0 ≤ i) (h1 : i < 34) : IsSum (varN L i).2 (varN L i).1 := by rw [varN, if_pos ⟨h0, h1⟩]; exact put_sum _ _
theorem var_bit {i : Int} {P : Int → Prop} (h0 : 0 ≤ i) (h1 : i < 34) (hP : P i) : IsBit (varN L i).2 (varN L i).1 P := by
  rw [varN, if_pos ⟨h0, h1⟩]
  obtain ⟨n, e1, e2⟩ := put_at L (sumNd (varL i.toNat))
  have := (asB_var i.toNat (by omega)).1
  refine ⟨n, _, _, e1, e2, this, fun v hv => ?_⟩
  simp only [List.mem_singleton] at hv
  rw [hv, show ((i.toNat : Nat) : Int) = i by omega]; exact hP
theorem alu_at {kind x y : Int} {xn yn : Nat} {a c : Nd} (hk : (doW kind 0 1).2 = true) (hx : x = xn) (hy : y = yn) (ha : L[xn]? = some a) (hc : L[yn]? = some c) : bAlu L kind x y = bAlu2 L kind xn yn a c := by
  subst hx hy
  have h1 := (List.getElem?_eq_some_iff.1 ha).1
  have h2 := (List.getElem?_eq_some_iff.1 hc).1
  rw [bAlu, if_pos ⟨hk, by simp [hasI]; exact h1, by simp [hasI]; exact h2⟩, Int.toNat_natCast, Int.toNat_natCast, ha, hc]
theorem alu_sum {kind x y : Int} (hk : kind = 4 ∨ kind = 20) (hx : IsSum L x) (hy : IsSum L y) : IsSum (bAlu L kind x y).2 (bAlu L kind x y).1 := by
  obtain ⟨xn, a, ex, ha, ka⟩ := hx
  obtain ⟨yn, c, ey, hc, kc⟩ := hy
  rw [alu_at (by rcases hk with rfl | rfl <;> decide) ex ey ha hc, bAlu2]
  have : ∃ f, sumsN L kind a c = okP (putN L (sumNd f)) := by
    rcases hk with rfl | rfl
    · exact ⟨_, by simp [sumsN, ka, kc]; rfl⟩
    · exact ⟨_, by simp [sumsN, ka, kc]; rfl⟩
  obtain ⟨f, e⟩ := this
  rw [e]
  simp only [okP, if_true]
  exact put_sum L f
theorem alu_sumc {kind x y : Int} {k : Nat} (hk : kind = 36 ∨ kind = 100) (hx : IsSum L x) {yn : Nat} (ey : y = yn) (hc : L[yn]? = some (sumNd (k :: zeros 34))) : IsSum (bAlu L kind x y).2 (bAlu L kind x y).1 := by
  obtain ⟨xn, a, ex, ha, ka⟩ := hx
  rw [alu_at (by rcases hk with rfl | rfl <;> decide) ex ey ha hc, bAlu2]
  have e2 : fConst (sumNd (k :: zeros 34)).f = some k := by simp [fConst, sumNd]
  have kc : (sumNd (k :: zeros 34)).kind = 0 := rfl
  have : ∃ f, sumsN L kind a (sumNd (k :: zeros 34)) = okP (putN L (sumNd f)) := by
    rcases hk with rfl | rfl
    · rw [sumsN, if_pos ⟨ka, kc⟩, if_neg (by decide), if_neg (by decide), e2]
      cases fConst a.f <;> exact ⟨_, by simp; rfl⟩
    · rw [sumsN, if_pos ⟨ka, kc⟩, if_neg (by decide), if_neg (by decide), e2]
      cases fConst a.f <;> exact ⟨_, by simp; rfl⟩
  obtain ⟨f, e⟩ := this
  rw [e]
  simp only [okP, if_true]
  exact put_sum L f
theorem neg_sum {x : Int} (h : IsSum L x) : IsSum (bNeg L x).2 (bNeg L x).1 := by
  rw [bNeg, if_pos h.has]
  have hp : L <+: (negN' L).2 := by
    show L <+: insN L _
    rw [insN]; split
    · exact List.prefix_refl L
    · exact List.prefix_append _ _
  exact alu_sum (.inr rfl) (put_sum L _) (h.pre hp)
theorem bitsN_bit {fv : List Int} {ft : List Nat} {P : Int → Prop} (hi : Inv L) (hR : Right fv ft) (hw : ∀ c ∈ ft, c < 4294967296) (hP : ∀ v ∈ fv, P v) : IsBit (bitsN L fv ft).2 (bitsN L fv ft).1 P := by
  obtain ⟨_, n, a, h1, h2, h3⟩ := bits_ext hi hR hw
  exact ⟨n, a, _, h1, h2, h3, hP⟩
theorem do_vars {kind : Int} {p q r : List Int × List Nat} (h : bdo kind p q = some r) : ∀ v ∈ r.1, v ∈ p.1 ∨ v ∈ q.1 := by
  obtain ⟨_, hR, _, hs⟩ := bdo_some h
  intro v hv
  obtain ⟨s, hd⟩ := hR.deps hv
  rw [hs, hs] at hd
  by_cases h1 : v ∈ p.1
  · exact .inl h1
  · by_cases h2 : v ∈ q.1
    · exact .inr h2
    · exfalso
      have e1 : sem p.1 p.2 (flip s v) = sem p.1 p.2 s := sem_ext fun u hu => by
        have : u ≠ v := fun e => h1 (e ▸ hu)
        simp [flip, this]
      have e2 : sem q.1 q.2 (flip s v) = sem q.1 q.2 s := sem_ext fun u hu => by
        have : u ≠ v := fun e => h2 (e ▸ hu)
        simp [flip, this]
      rw [e1, e2] at hd
      exact hd rfl
theorem alu_bit {G : Tbl} [HasBits G] {kind x y : Int} {P : Int → Prop} (hi : Inv L) (hk : kind = 68 ∨ kind = 84 ∨ kind = 164) (hx : IsBit L x P) (hy : IsBit L y P) (h4 : ∀ l : List Int, Up l → (∀ v ∈ l, P v ∧ 0 ≤ v ∧ v < 34) → l.length ≤ 4) : IsBit (bAlu L kind x y).2 (bAlu L kind x y).1 P := by
  obtain ⟨xn, a, p, ex, ha, ep, hp⟩ := hx
  obtain ⟨yn, c, q, ey, hc, eq, hq⟩ := hy
  have hga := hi.good _ _ ha
  have hgc := hi.good _ _ hc
  rw [alu_at (by rcases hk with rfl | rfl | rfl <;> decide) ex ey ha hc, bAlu2]
  obtain ⟨r1, w1⟩ := asB_right hga.2.1 ep
  obtain ⟨r2, w2⟩ := asB_right hgc.2.1 eq
  have e1 := sums_ext (kind := kind) hi hga.1 hgc.1 hga.2.1 hgc.2.1
  split
  · -- two constants
    rename_i ht
    rw [sumsN] at ht ⊢
    split at ht
    case isFalse => cases ht
    rename_i hkk
    rw [if_pos hkk]
    have n4 : kind ≠ 4 := by omega
    have n20 : kind ≠ 20 := by omega
    have n36 : kind ≠ 36 := by omega
    have n100 : kind ≠ 100 := by omega
    simp only [n4, n20, n36, n100, if_false] at ht ⊢
    split at ht
    · rename_i u k eu ek
      simp only [eu, ek]
      exact const_bit L _ P
    · cases ht
    · cases ht
    · cases ht
  · rename_i ht
    have hdo : DoOk kind p.1 q.1 p.2 q.2 := ⟨hk, r1, r2, h4 _ (mer_up _ _ r1.up r2.up) fun v hv => by
      rcases (mem_mer _ _).1 hv with h | h
      · exact ⟨hp v h, r1.mem h⟩
      · exact ⟨hq v h, r2.mem h⟩⟩
    obtain ⟨r, er⟩ : ∃ r, bdo kind p q = some r := by
      cases er : bdo kind p q with
      | some r => exact ⟨r, rfl⟩
      | none => exact absurd hdo ((bdo_ok (G := G) kind p q r1 r2 w1 w2).2 er)
    have eb : bothN (sumsN L kind a c).2.2 kind a c = okP (bitsN (sumsN L kind a c).2.2 r.1 r.2) := by simp [bothN, ep, eq, er]
    rw [eb]
    simp only [okP, if_true]
    obtain ⟨_, hR, hw, _⟩ := bdo_some er
    exact bitsN_bit e1.inv hR hw fun v hv => by
      rcases do_vars er v hv with h | h
      · exact hp v h
      · exact hq v h
end Go.Ev
/- What the functions of ins, and those of hurdleref02, compute. -/
namespace Go.Ev
open Go Go.RowKit
variable {G : Tbl}
set_option maxRecDepth 10000
set_option maxHeartbeats 2000000
set_option linter.unusedSimpArgs false
set_option linter.unusedVariables false
/-- An instruction. -/
structure In4 where
  op : Int
  jt : Int
  jf : Int
  k : Nat
  deriving DecidableEq
/-- Its cells. -/
def In4.cs (x : In4) : List V := [.int .i64 x.op, .int .i64 x.jt, .int .i64 x.jf, .int .u32 (x.k : Int)]
/-- Those of many. -/
def IL (l : List In4) : List (List V) := l.map In4.cs
@[simp] theorem IL_length (l : List In4) : (IL l).length = l.length := by simp [IL]
@[simp] theorem IL_get (l : List In4) (i : Nat) : (IL l)[i]? = (l[i]?).map In4.cs := by simp [IL]
@[simp] theorem IL_nil : IL [] = [] := rfl
@[simp] theorem IL_snoc (l : List In4) (x : In4) : IL l ++ [x.cs] = IL (l ++ [x]) := by simp [IL]
@[simp] theorem IL_sz (l : List In4) : (∀ f ∈ IL l, f.length = 4) = True := by
  simp only [eq_iff_iff, iff_true]
  intro f hf
  simp only [IL, List.mem_map] at hf
  obtain ⟨x, _, rfl⟩ := hf
  rfl
@[simp] theorem cs_length (x : In4) : x.cs.length = 4 := rfl
end Go.Ev
/- Which filters are sound: check. -/
namespace Go.Ev
open Go Go.RowKit
variable {G : Tbl}
set_option maxRecDepth 10000
set_option maxHeartbeats 2000000
set_option linter.unusedSimpArgs false
set_option linter.unusedVariables false
/-- The rules, kept. -/
def rents : List (V × V) := [(.int .i64 32, .fn 152 [.ptr 0 0]), (.int .i64 52, .fn 153 [.ptr 0 0]), (.int .i64 2, .fn 150 [.ptr 0 0]), (.int .i64 3, .fn 150 [.ptr 0 0]), (.int .i64 96, .fn 150 [.ptr 0 0]), (.int .i64 97, .fn 150 [.ptr 0 0]),
  (.int .i64 100, .fn 151 [.ptr 0 0]), (.int .i64 116, .fn 151 [.ptr 0 0])]
end Go.Ev
/- Which filters are sound: check.Check. -/
namespace Go.Ev
open Go Go.RowKit
variable {G : Tbl}
set_option maxRecDepth 10000
set_option maxHeartbeats 2000000
set_option linter.unusedSimpArgs false
set_option linter.unusedVariables false
def H2 : Heap := [some (.cells [.fn 149 []]), some (.map rents)]
end Go.Ev
/- Which instructions are a window: window.Right, hurdleref17.Right; and hurdleref03.Same. -/
namespace Go.Ev
open Go Go.RowKit
variable {G : Tbl}
set_option maxRecDepth 10000
set_option maxHeartbeats 2000000
set_option linter.unusedSimpArgs false
set_option linter.unusedVariables false
@[simp] theorem cs_take4 (x : In4) : x.cs.take 4 = x.cs := rfl
end Go.Ev
/- What hurdleref07 says is needed. -/
namespace Go.Ev
open Go Go.RowKit
variable {G : Tbl}
set_option maxRecDepth 10000
set_option maxHeartbeats 2000000
set_option linter.unusedSimpArgs false
set_option linter.unusedVariables false
/-- Cells that are bits. -/
def cb (l : List Bool) : List V := l.map V.bool
@[simp] theorem cb_length (l : List Bool) : (cb l).length = l.length := by simp [cb]
@[simp] theorem cb_cl (n : Nat) (l : List Bool) : clL n (cb l) = cb l := by
  rw [clL_eq_map]; simp [cb, Function.comp_def]
theorem cb_set (l : List Bool) (i : Nat) (x : Bool) (h : i < l.length) : (cb l).take i ++ (V.bool x :: (cb l).drop (i + 1)) = cb (l.set i x) := by
  rw [cb, ← List.map_drop, ← List.map_take, List.set_eq_take_append_cons_drop, if_pos h]
  simp [cb]
@[simp] theorem cb_pure (l : List Bool) : (cb l).all V.pure = true := by simp [cb]
@[simp high] theorem ev1_mkslb (base : Nat) (e : Env) (H : Heap) (s bytes : Nat) (n : X) : ev1 base e H (.mksl s bytes [.bool false] n) = (match n.ev e with
    | .int _ m => if isFree H (base + s) = true ∧ 0 ≤ m ∧ m.toNat * bytes ≤ 140737488355328 then some (.rs (base + s) 0 m.toNat 1, H.set (base + s) (some (.cells (cb (List.replicate m.toNat false))))) else none
    | _ => none) := by
  have h : ∀ m : Nat, (List.replicate m [V.bool false]).flatten = cb (List.replicate m false) := fun m => by
    induction m with
    | zero => rfl
    | succ m ih => rw [List.replicate_succ, List.flatten_cons, ih]; simp [cb, List.replicate_succ]
  rw [ev1.eq_27]
  cases n.ev e <;> simp only [h, List.length_singleton]
end Go.Ev
/- Where a filter is gone to: splice.targets, hurdleref22.jumps. -/
namespace Go.Ev
open Go Go.RowKit
variable {G : Tbl}
set_option maxRecDepth 10000
set_option maxHeartbeats 2000000
set_option linter.unusedSimpArgs false
set_option linter.unusedVariables false
theorem cb_chunks : ∀ l : List Bool, chunks 1 l.length (cb l) = bools l
  | [] => rfl
  | x :: l => by
    have := cb_chunks l
    simp only [cb] at this
    simp [chunks, cb, bools, this]
end Go.Ev
/- Which values are sums, and bits, as they were made. -/
namespace Go.Ev
open Go Go.RowKit
variable {G : Tbl}
set_option maxRecDepth 10000
set_option maxHeartbeats 4000000
set_option linter.unusedSimpArgs false
set_option linter.unusedVariables false
def atB (l : List Bool) (x : Int) : Bool := l.getD x.toNat false
def sumv (l : List Md) (acc : List Bool) (a : Md) : Bool :=
  if a.kind = 0 ∨ a.kind = 1 then true
  else if a.kind = 2 then (if a.op = 4 ∨ a.op = 20 then atB acc a.x && atB acc a.y else if a.op = 36 ∨ a.op = 100 then atB acc a.x && decide ((l.getD a.y.toNat noMd).kind = 0) else false)
  else if a.kind = 3 then atB acc a.x else false
def sumsL (l : List Md) : Nat → List Bool
  | 0 => []
  | n + 1 => sumsL l n ++ [sumv l (sumsL l n) (l.getD n noMd)]
theorem sumsL_len (l : List Md) : ∀ n, (sumsL l n).length = n
  | 0 => rfl
  | n + 1 => by rw [sumsL, List.length_append, sumsL_len l n]; rfl
theorem getD_md {l : List Md} {i : Nat} {a : Md} (h : l[i]? = some a) : l.getD i noMd = a := by rw [List.getD_eq_getElem?_getD, h]; rfl
theorem Sums16_ok [HasR16 G] (l : List Md) (hl : l.length ≤ 1000) (hm : mdOk l) : FP G 281 [.vs (mds l) .no] (.vs (bools (sumsL l l.length)) .no) := by
  refine FP_of HasR16.h_hurdleref16_Sums (Nat.le_of_ble_eq_true rfl) ?_
  obtain ⟨T, hT⟩ : ∃ T : Nat → List Bool, ∀ i, T i = sumsL l i := ⟨_, fun _ => rfl⟩
  have T0 : T 0 = [] := by rw [hT]; rfl
  have Tl : ∀ i, (T i).length = i := fun i => by rw [hT, sumsL_len]
  have Ts : ∀ (i : Nat) (a : Md), l[i]? = some a → T (i + 1) = T i ++ [sumv l (T i) a] := fun i a ha => by rw [hT, hT, sumsL, getD_md ha]
  rw [← hT]
  simp
  refine W_up l.length (fun i => [(0, .vs (mds l) .no), (3, .vs (bools (T i)) (.own 0)), (4, .int .i64 i)]) (fun i => [some (.zone i)]) (fun _ => True) ?_ ?_
  · simp [keep_cl, trunc, T0]
  intro i hi _
  by_cases hlt : i < l.length
  · obtain ⟨a, ha⟩ : ∃ a, l[i]? = some a := ⟨_, get_in hlt⟩
    have hgq := mds_get ha
    have hcs : a.cs.length = 6 := rfl
    have hcd : a.cs = [.int .i64 a.kind, .int .i64 a.i, .int .i64 a.op, .int .i64 a.x, .int .i64 a.y, .int .u32 (a.c : Int)] := rfl
    have hTl := Tl i
    have hts := Ts i a ha
    obtain ⟨hc, hk⟩ := hm i a ha
    have bs : ∀ b, bools (T i) ++ [[V.bool b]] = bools (T i ++ [b]) := fun b => by simp [bools]
    have gT : ∀ n, n < i → (bools (T i))[n]? = some [.bool ((T i).getD n false)] := fun n hn => by simp [bools, get_in (show n < (T i).length by omega)]
    have hrep : ∀ b, sumv l (T i) a = b → bools (T i) ++ [[V.bool b]] = bools (T (i + 1)) := fun b e => by rw [bs, hts, e]
    have hz : (i + 1) * 1 ≤ 140737488355328 := by omega
    simp (disch := omega) [ltT, hlt, hgq, hcs]
    rcases hk with k | ⟨k, i0, i1⟩ | ⟨k, x0, x1, y0, y1⟩ | ⟨k, x0, x1⟩ | k
    · have e := hrep true (by rw [sumv, if_pos (.inl k)])
      simp (disch := omega) [k, hlt, hcd, hTl, e, Tl, add1', keep_cl, trunc, leTn, leFn, -Int.natCast_add]
    · have e := hrep true (by rw [sumv, if_pos (.inr k)])
      simp (disch := omega) [k, hlt, hcd, hTl, e, Tl, add1', keep_cl, trunc, leTn, leFn, -Int.natCast_add]
    · obtain ⟨nx, hnx⟩ := Int.eq_ofNat_of_zero_le x0
      obtain ⟨ny, hny⟩ := Int.eq_ofNat_of_zero_le y0
      have gx := gT nx (by omega)
      have gy := gT ny (by omega)
      have gx' := (List.getElem?_eq_some_iff.1 gx).2
      have gy' := (List.getElem?_eq_some_iff.1 gy).2
      obtain ⟨c, hcy⟩ : ∃ c, l[ny]? = some c := ⟨_, get_in (by omega)⟩
      have gc := mds_get hcy
      have gc' := (List.getElem?_eq_some_iff.1 gc).2
      have ccs : c.cs.length = 6 := rfl
      have ccd : c.cs.take 1 = [.int .i64 c.kind] := rfl
      have hnyl : ny < l.length := by omega
      have ex : atB (T i) a.x = (T i).getD nx false := by rw [atB, hnx]; rfl
      have ey : atB (T i) a.y = (T i).getD ny false := by rw [atB, hny]; rfl
      by_cases h1 : a.op = 4 ∨ a.op = 20
      · have e := hrep ((T i).getD nx false && (T i).getD ny false) (by rw [sumv, if_neg (by omega), if_pos k, if_pos h1, ex, ey])
        generalize (T i).getD nx false = u at *
        generalize (T i).getD ny false = w at *
        rcases h1 with h1 | h1 <;> cases u <;> cases w <;> simp at e <;>
        simp (disch := omega) [k, h1, hnx, hny, gx, gx', gy, gy', hlt, hcd, hTl, e, Tl, add1', keep_cl, trunc, leTn, leFn, -Int.natCast_add]
      · by_cases h2 : a.op = 36 ∨ a.op = 100
        · have e := hrep ((T i).getD nx false && decide (c.kind = 0)) (by rw [sumv, if_neg (by omega), if_pos k, if_neg h1, if_pos h2, ex, hny, Int.toNat_natCast, getD_md hcy])
          have h4 : (a.op == 4) = false := beqF (by omega)
          have h20 : (a.op == 20) = false := beqF (by omega)
          generalize (T i).getD nx false = u at *
          by_cases hc0 : c.kind = 0
          · rcases h2 with h2 | h2 <;> cases u <;> simp [hc0] at e <;>
            simp (disch := omega) [k, h2, hc0, hnx, hny, gx, gx', gy, gy', gc, gc', ccs, ccd, hnyl, hlt, hcd, hTl, e, Tl, add1', keep_cl, trunc, leTn, leFn, -Int.natCast_add]
          · rcases h2 with h2 | h2 <;> cases u <;> simp [hc0] at e <;>
            simp (disch := omega) [k, h2, beqF hc0, hnx, hny, gx, gx', gy, gy', gc, gc', ccs, ccd, hnyl, hlt, hcd, hTl, e, Tl, add1', keep_cl, trunc, leTn, leFn, -Int.natCast_add]
        · have e := hrep false (by rw [sumv, if_neg (by omega), if_pos k, if_neg h1, if_neg h2])
          have h4 : (a.op == 4) = false := beqF (by omega)
          have h20 : (a.op == 20) = false := beqF (by omega)
          have h36 : (a.op == 36) = false := beqF (by omega)
          have h100 : (a.op == 100) = false := beqF (by omega)
          simp (disch := omega) [k, h4, h20, h36, h100, hlt, hcd, hTl, e, Tl, add1', keep_cl, trunc, leTn, leFn, -Int.natCast_add]
    · obtain ⟨nx, hnx⟩ := Int.eq_ofNat_of_zero_le x0
      have gx := gT nx (by omega)
      have gx' := (List.getElem?_eq_some_iff.1 gx).2
      have e := hrep ((T i).getD nx false) (by rw [sumv, if_neg (by omega), if_neg (by omega), if_pos k, atB, hnx]; rfl)
      generalize (T i).getD nx false = u at *
      simp (disch := omega) [k, hnx, gx, gx', hlt, hcd, hTl, e, Tl, add1', keep_cl, trunc, leTn, leFn, -Int.natCast_add]
    · have e := hrep false (by rw [sumv, if_neg (by omega), if_neg (by omega), if_neg (by omega)])
      simp (disch := omega) [k, hlt, hcd, hTl, e, Tl, add1', keep_cl, trunc, leTn, leFn, -Int.natCast_add]
  · obtain rfl : i = l.length := by omega
    simp
/-! Which variables come into a value. -/
def atV (acc : List (List Bool)) (x : Int) (k : Nat) : Bool := (acc.getD x.toNat []).getD k false
def varv (acc : List (List Bool)) (a : Md) (k : Nat) : Bool := decide (a.kind = 1 ∧ a.i = k) || (decide (a.kind = 2 ∨ a.kind = 3) && atV acc a.x k) || (decide (a.kind = 2) && atV acc a.y k)
def rowV (acc : List (List Bool)) (a : Md) : List Bool := (List.range 34).map (varv acc a)
def varsL' (l : List Md) : Nat → List (List Bool)
  | 0 => []
  | n + 1 => varsL' l n ++ [rowV (varsL' l n) (l.getD n noMd)]
theorem varsL'_len (l : List Md) : ∀ n, (varsL' l n).length = n
  | 0 => rfl
  | n + 1 => by rw [varsL', List.length_append, varsL'_len l n]; rfl
theorem varsL'_row (l : List Md) : ∀ (n : Nat), ∀ r ∈ varsL' l n, r.length = 34
  | 0 => fun r h => by cases h
  | n + 1 => fun r h => by
    rw [varsL'] at h
    rcases List.mem_append.1 h with h | h
    · exact varsL'_row l n r h
    · rw [List.mem_singleton.1 h]; simp [rowV]
def rowsB (T : List (List Bool)) : List (List V) := T.map fun r => [V.vs (bools r) .no]
/-- A row, set so far. -/
def rowP (acc : List (List Bool)) (a : Md) (j : Nat) : List Bool := (rowV acc a).take j ++ List.replicate (34 - j) false
theorem rowP_len (acc : List (List Bool)) (a : Md) {j : Nat} (h : j ≤ 34) : (rowP acc a j).length = 34 := by simp [rowP, rowV]; omega
theorem rowP_set (acc : List (List Bool)) (a : Md) {j : Nat} (h : j < 34) : (rowP acc a j).set j (varv acc a j) = rowP acc a (j + 1) := by
  have e : (rowV acc a)[j]? = some (varv acc a j) := by simp [rowV, h]
  have hl : ((rowV acc a).take j).length = j := by simp [rowV]; omega
  rw [rowP, rowP, List.set_append_right _ _ (by omega), hl, Nat.sub_self, show 34 - j = (34 - (j + 1)) + 1 by omega, List.replicate_succ, List.set_cons_zero, List.take_add_one, e, List.append_assoc]
  rfl
theorem Vars16_ok [HasR16 G] (l : List Md) (hl : l.length ≤ 1000) (hm : mdOk l) : FP G 282 [.vs (mds l) .no] (.vs (rowsB (varsL' l l.length)) .no) := by
  refine FP_of HasR16.h_hurdleref16_Vars (Nat.le_of_ble_eq_true rfl) ?_
  obtain ⟨T, hT⟩ : ∃ T : Nat → List (List Bool), ∀ i, T i = varsL' l i := ⟨_, fun _ => rfl⟩
  have T0 : T 0 = [] := by rw [hT]; rfl
  have Tl : ∀ i, (T i).length = i := fun i => by rw [hT, varsL'_len]
  have Tr : ∀ i, ∀ r ∈ T i, r.length = 34 := fun i => by rw [hT]; exact varsL'_row l i
  have Ts : ∀ (i : Nat) (a : Md), l[i]? = some a → T (i + 1) = T i ++ [rowV (T i) a] := fun i a ha => by rw [hT, hT, varsL', getD_md ha]
  rw [← hT]
  have rl : ∀ i, (rowsB (T i)).length = i := fun i => by simp [rowsB, Tl]
  simp
  refine W_up l.length (fun i => [(0, .vs (mds l) .no), (3, .vs (rowsB (T i)) (.own 0)), (4, .int .i64 i)]) (fun i => [some (.zone i)]) (fun _ => True) ?_ ?_
  · simp [keep_cl, trunc, T0, rowsB]
  intro i hi _
  by_cases hlt : i < l.length
  · obtain ⟨a, ha⟩ : ∃ a, l[i]? = some a := ⟨_, get_in hlt⟩
    have hgq := mds_get ha
    have hcs : a.cs.length = 6 := rfl
    have hcd : a.cs = [.int .i64 a.kind, .int .i64 a.i, .int .i64 a.op, .int .i64 a.x, .int .i64 a.y, .int .u32 (a.c : Int)] := rfl
    have hts := Ts i a ha
    obtain ⟨hc, hk⟩ := hm i a ha
    have gT : ∀ n, n < i → (rowsB (T i))[n]? = some [.vs (bools ((T i).getD n [])) .no] := fun n hn => by simp [rowsB, get_in (show n < (T i).length by rw [Tl]; omega)]
    have gr : ∀ n k, n < i → k < 34 → (bools ((T i).getD n []))[k]? = some [.bool (((T i).getD n []).getD k false)] := fun n k hn hk => by
      have hm : (T i).getD n [] ∈ T i := by
        rw [List.getD_eq_getElem?_getD, get_in (show n < (T i).length by rw [Tl]; omega)]
        exact List.getElem_mem _
      have h34 := Tr i _ hm
      generalize (T i).getD n [] = X at *
      simp [bools, get_in (show k < X.length by omega)]
    have gl : ∀ n, n < i → ((T i).getD n []).length = 34 := fun n hn => by
      refine Tr i _ ?_
      rw [List.getD_eq_getElem?_getD, get_in (show n < (T i).length by rw [Tl]; omega)]
      exact List.getElem_mem _
    have P0 : List.replicate 34 (V.bool false) = cb (rowP (T i) a 0) := by simp [rowP, cb]
    have P0' : rowP (T i) a 0 = List.replicate 34 false := by simp [rowP]
    have hsz : ∀ f ∈ rowsB (T i), f.length = 1 := fun f hf => by
      simp only [rowsB, List.mem_map] at hf
      obtain ⟨r, _, rfl⟩ := hf; rfl
    have hsz' : (∀ f, f ∈ rowsB (T i) → f.length = 1) = True := eq_true hsz
    have P34 : rowP (T i) a 34 = rowV (T i) a := by rw [rowP, List.take_of_length_le (by simp [rowV])]; simp
    have hch := cb_chunks (rowP (T i) a 34)
    rw [rowP_len _ _ (Nat.le_refl _)] at hch
    have hfin : rowsB (T i) ++ [[V.vs (bools (rowP (T i) a 34)) .no]] = rowsB (T (i + 1)) := by rw [P34, hts]; simp [rowsB]
    have hz : (i + 1) * 24 ≤ 140737488355328 := by omega
    simp (disch := omega) [-List.reduceReplicate, ltT, hlt, hgq, hcs, P0]
    refine W_up 34 (fun j => [(0, .vs (mds l) .no), (3, .vs (rowsB (T i)) (.own 0)), (4, .int .i64 i), (5, .ptr 1 0), (6, .rs 2 0 34 1), (7, .int .i64 j)]) (fun j => [some (.zone i), some (.cells a.cs), some (.cells (cb (rowP (T i) a j)))]) (fun _ => True) ?_ ?_
    · simp [keep_cl, trunc, hcd, P0']
    intro j hj _
    have hpl := rowP_len (T i) a hj
    by_cases hjt : j < 34
    · have hset := cb_set (rowP (T i) a j) j (varv (T i) a j) (by omega)
      rw [rowP_set _ _ hjt] at hset
      have hj34 : ((j : Int) < 34) = True := eq_true (by omega)
      rcases hk with k | ⟨k, i0, i1⟩ | ⟨k, x0, x1, y0, y1⟩ | ⟨k, x0, x1⟩ | k
      · have e : varv (T i) a j = false := by simp [varv, k]
        rw [e] at hset
        simp (disch := omega) [hj34, hjt, hcd, k, ltTn, leTn, leFn, hpl, hset, add1', keep_cl, trunc, -Int.natCast_add]
      · obtain ⟨n, hn⟩ := Int.eq_ofNat_of_zero_le i0
        by_cases hnj : n = j
        · have e : varv (T i) a j = true := by simp [varv, k, hn, hnj]
          rw [e] at hset
          simp (disch := omega) [hj34, hjt, hcd, k, hn, hnj, ltTn, leTn, leFn, hpl, hset, add1', keep_cl, trunc, -Int.natCast_add]
        · have e : varv (T i) a j = false := by simp [varv, k, hn]; omega
          have hb : ((n : Int) == (j : Int)) = false := beqF (by omega)
          rw [e] at hset
          simp (disch := omega) [hj34, hjt, hcd, k, hn, hb, hnj, ltTn, leTn, leFn, hpl, hset, add1', keep_cl, trunc, -Int.natCast_add]
      · obtain ⟨nx, hnx⟩ := Int.eq_ofNat_of_zero_le x0
        obtain ⟨ny, hny⟩ := Int.eq_ofNat_of_zero_le y0
        have gx := gT nx (by omega)
        have gy := gT ny (by omega)
        have gx2 := gr nx j (by omega) hjt
        have gy2 := gr ny j (by omega) hjt
        have gx' := (List.getElem?_eq_some_iff.1 gx).2
        have gy' := (List.getElem?_eq_some_iff.1 gy).2
        have gx2' := (List.getElem?_eq_some_iff.1 gx2).2
        have gy2' := (List.getElem?_eq_some_iff.1 gy2).2
        have e : varv (T i) a j = (((T i).getD nx []).getD j false || ((T i).getD ny []).getD j false) := by simp [varv, k, atV, hnx, hny]
        rw [e] at hset
        have lx := gl nx (by omega)
        have ly := gl ny (by omega)
        generalize ((T i).getD nx []).getD j false = u at *
        generalize ((T i).getD ny []).getD j false = w at *
        generalize (T i).getD nx [] = X at *
        generalize (T i).getD ny [] = Y at *
        cases u <;> cases w <;> simp at hset <;>
        simp (disch := omega) [hj34, hjt, hcd, k, hnx, hny, gx, gy, gx2, gy2, gx', gy', gx2', gy2', lx, ly, rl, ltTn, leTn, leFn, hpl, hset, add1', keep_cl, trunc, -Int.natCast_add]
      · obtain ⟨nx, hnx⟩ := Int.eq_ofNat_of_zero_le x0
        have gx := gT nx (by omega)
        have gx2 := gr nx j (by omega) hjt
        have gx' := (List.getElem?_eq_some_iff.1 gx).2
        have gx2' := (List.getElem?_eq_some_iff.1 gx2).2
        have e : varv (T i) a j = ((T i).getD nx []).getD j false := by simp [varv, k, atV, hnx]
        rw [e] at hset
        have lx := gl nx (by omega)
        generalize ((T i).getD nx []).getD j false = u at *
        generalize (T i).getD nx [] = X at *
        cases u <;>
        simp (disch := omega) [hj34, hjt, hcd, k, hnx, gx, gx2, gx', gx2', lx, rl, ltTn, leTn, leFn, hpl, hset, add1', keep_cl, trunc, -Int.natCast_add]
      · have e : varv (T i) a j = false := by simp [varv, k]
        rw [e] at hset
        simp (disch := omega) [hj34, hjt, hcd, k, ltTn, leTn, leFn, hpl, hset, add1', keep_cl, trunc, -Int.natCast_add]
    · obtain rfl : j = 34 := by omega
      simp (disch := omega) [hlt, hpl, hch, rl, hfin, hsz', add1', keep_cl, trunc, leTn, leFn, -Int.natCast_add]
  · obtain rfl : i = l.length := by omega
    simp
end Go.Ev
/- Which values are bits, as they were made. -/
namespace Go.Ev
open Go Go.RowKit
variable {G : Tbl}
set_option maxRecDepth 10000
set_option maxHeartbeats 4000000
set_option linter.unusedSimpArgs false
set_option linter.unusedVariables false
def cntT (r : List Bool) (k : Nat) : Nat := (r.take k).countP fun b => b
def bitv (n : Nat) (acc : List Bool) (a : Md) : Bool :=
  if a.kind = 0 ∨ a.kind = 1 then true else if a.kind = 2 ∧ (a.op = 68 ∨ a.op = 84 ∨ a.op = 164) then decide (n ≤ 4) && atB acc a.x && atB acc a.y else false
def bitsL (l : List Md) : Nat → List Bool
  | 0 => []
  | n + 1 => bitsL l n ++ [bitv (cntT ((varsL' l l.length).getD n []) 34) (bitsL l n) (l.getD n noMd)]
theorem bitsL_len (l : List Md) : ∀ n, (bitsL l n).length = n
  | 0 => rfl
  | n + 1 => by rw [bitsL, List.length_append, bitsL_len l n]; rfl
theorem cntT_succ {r : List Bool} {k : Nat} {b : Bool} (h : r[k]? = some b) : cntT r (k + 1) = cntT r k + (if b = true then 1 else 0) := by
  rw [cntT, List.take_add_one, h, List.countP_append, cntT]
  cases b <;> simp
theorem cntT_le (r : List Bool) (k : Nat) : cntT r k ≤ k := by
  have := List.countP_le_length (p := fun b => b) (l := r.take k)
  simp only [cntT]; simp at this; omega
theorem Bits16_ok [HasR16 G] (l : List Md) (hl : l.length ≤ 1000) (hm : mdOk l) : FP G 283 [.vs (mds l) .no] (.vs (bools (bitsL l l.length)) .no) := by
  refine FP_of HasR16.h_hurdleref16_Bits (Nat.le_of_ble_eq_true rfl) ?_
  obtain ⟨T, hT⟩ : ∃ T : Nat → List Bool, ∀ i, T i = bitsL l i := ⟨_, fun _ => rfl⟩
  have T0 : T 0 = [] := by rw [hT]; rfl
  have Tl : ∀ i, (T i).length = i := fun i => by rw [hT, bitsL_len]
  have hva := Vars16_ok (G := G) l hl hm
  have hvl := varsL'_len l l.length
  have hvr := varsL'_row l l.length
  obtain ⟨V', hV⟩ : ∃ V', V' = varsL' l l.length := ⟨_, rfl⟩
  have Ts : ∀ (i : Nat) (a : Md), l[i]? = some a → T (i + 1) = T i ++ [bitv (cntT (V'.getD i []) 34) (T i) a] := fun i a ha => by rw [hT, hT, bitsL, getD_md ha, hV]
  rw [← hV] at hva hvl hvr
  rw [← hT]
  simp
  refine callP_of hva ?_
  simp
  refine W_up l.length (fun i => [(0, .vs (mds l) .no), (3, .vs (rowsB V') .no), (4, .vs (bools (T i)) (.own 0)), (5, .int .i64 i)]) (fun i => [some (.zone i)]) (fun _ => True) ?_ ?_
  · simp [keep_cl, trunc, T0]
  intro i hi _
  by_cases hlt : i < l.length
  · obtain ⟨a, ha⟩ : ∃ a, l[i]? = some a := ⟨_, get_in hlt⟩
    have hgq := mds_get ha
    have hcs : a.cs.length = 6 := rfl
    have hcd : a.cs = [.int .i64 a.kind, .int .i64 a.i, .int .i64 a.op, .int .i64 a.x, .int .i64 a.y, .int .u32 (a.c : Int)] := rfl
    have hTl := Tl i
    have hts := Ts i a ha
    obtain ⟨hc, hk⟩ := hm i a ha
    have bs : ∀ b, bools (T i) ++ [[V.bool b]] = bools (T i ++ [b]) := fun b => by simp [bools]
    have gT : ∀ n, n < i → (bools (T i))[n]? = some [.bool ((T i).getD n false)] := fun n hn => by simp [bools, get_in (show n < (T i).length by omega)]
    obtain ⟨r, hr⟩ : ∃ r, V'[i]? = some r := ⟨_, get_in (by omega)⟩
    have hrl := hvr r (List.mem_of_getElem? hr)
    have hrD : V'.getD i [] = r := by rw [List.getD_eq_getElem?_getD, hr]; rfl
    rw [hrD] at hts
    have gV : (rowsB V')[i]? = some [.vs (bools r) .no] := by simp [rowsB, hr]
    have gV' := (List.getElem?_eq_some_iff.1 gV).2
    have lV : (rowsB V').length = l.length := by simp [rowsB, hvl]
    have hrep : ∀ b, bitv (cntT r 34) (T i) a = b → bools (T i) ++ [[V.bool b]] = bools (T (i + 1)) := fun b e => by rw [bs, hts, e]
    simp (disch := omega) [ltT, hlt, hgq, hcs]
    refine W_up 34 (fun j => [(0, .vs (mds l) .no), (3, .vs (rowsB V') .no), (4, .vs (bools (T i)) (.own 0)), (5, .int .i64 i), (6, .ptr 1 0), (7, .int .i64 (cntT r j : Nat)), (8, .int .i64 j)]) (fun j => [some (.zone i), some (.cells a.cs)]) (fun _ => True) ?_ ?_
    · simp [keep_cl, trunc, hcd, cntT]
    intro j hj _
    have hcl := cntT_le r j
    by_cases hjt : j < 34
    · obtain ⟨b, hb⟩ : ∃ b, r[j]? = some b := ⟨_, get_in (by omega)⟩
      have gb : (bools r)[j]? = some [.bool b] := by simp [bools, hb]
      have gb' := (List.getElem?_eq_some_iff.1 gb).2
      have hsu := cntT_succ hb
      have hj34 : ((j : Int) < 34) = True := eq_true (by omega)
      have hil : ((i : Int) < (l.length : Int)) = True := eq_true (by omega)
      cases b
      · simp at hsu
        simp (disch := omega) [hj34, hjt, hlt, gV, gV', lV, gb, gb', hrl, hsu, ltTn, leTn, leFn, hcd, add1', keep_cl, trunc, -Int.natCast_add]
      · simp at hsu
        simp (disch := omega) [hj34, hjt, hlt, gV, gV', lV, gb, gb', hrl, hsu, ltTn, leTn, leFn, hcd, add1', keep_cl, trunc, -Int.natCast_add]
    · obtain rfl : j = 34 := by omega
      rcases hk with k | ⟨k, i0, i1⟩ | ⟨k, x0, x1, y0, y1⟩ | ⟨k, x0, x1⟩ | k
      · have e := hrep true (by rw [bitv, if_pos (.inl k)])
        simp (disch := omega) [k, hlt, hcd, hTl, e, Tl, add1', keep_cl, trunc, leTn, leFn, -Int.natCast_add]
      · have e := hrep true (by rw [bitv, if_pos (.inr k)])
        simp (disch := omega) [k, hlt, hcd, hTl, e, Tl, add1', keep_cl, trunc, leTn, leFn, -Int.natCast_add]
      · obtain ⟨nx, hnx⟩ := Int.eq_ofNat_of_zero_le x0
        obtain ⟨ny, hny⟩ := Int.eq_ofNat_of_zero_le y0
        have gx := gT nx (by omega)
        have gy := gT ny (by omega)
        have gx' := (List.getElem?_eq_some_iff.1 gx).2
        have gy' := (List.getElem?_eq_some_iff.1 gy).2
        have ex : atB (T i) a.x = (T i).getD nx false := by rw [atB, hnx]; rfl
        have ey : atB (T i) a.y = (T i).getD ny false := by rw [atB, hny]; rfl
        by_cases h1 : a.op = 68 ∨ a.op = 84 ∨ a.op = 164
        · have e := hrep (decide (cntT r 34 ≤ 4) && (T i).getD nx false && (T i).getD ny false) (by rw [bitv, if_neg (by omega), if_pos ⟨k, h1⟩, ex, ey])
          generalize (T i).getD nx false = u at *
          generalize (T i).getD ny false = w at *
          by_cases h4 : cntT r 34 ≤ 4
          · have h4' : ((cntT r 34 : Nat) : Int) ≤ 4 := by omega
            rcases h1 with h1 | h1 | h1 <;> cases u <;> cases w <;> simp [h4] at e <;>
            simp (disch := omega) [k, h1, h4, h4', hnx, hny, gx, gx', gy, gy', hlt, hcd, hTl, e, Tl, add1', keep_cl, trunc, leTn, leFn, -Int.natCast_add]
          · have h4' : ¬ ((cntT r 34 : Nat) : Int) ≤ 4 := by omega
            simp [h4] at e
            rcases h1 with h1 | h1 | h1 <;>
            simp (disch := omega) [k, h1, h4, h4', hnx, hny, gx, gx', gy, gy', hlt, hcd, hTl, e, Tl, add1', keep_cl, trunc, leTn, leFn, -Int.natCast_add]
        · have e := hrep false (by rw [bitv, if_neg (by omega), if_neg (fun h => h1 h.2)])
          have b1 : (a.op == 68) = false := beqF (by omega)
          have b2 : (a.op == 84) = false := beqF (by omega)
          have b3 : (a.op == 164) = false := beqF (by omega)
          simp (disch := omega) [k, b1, b2, b3, hlt, hcd, hTl, e, Tl, add1', keep_cl, trunc, leTn, leFn, -Int.natCast_add]
      · have e := hrep false (by rw [bitv, if_neg (by omega), if_neg (by omega)])
        simp (disch := omega) [k, hlt, hcd, hTl, e, Tl, add1', keep_cl, trunc, leTn, leFn, -Int.natCast_add]
      · have e := hrep false (by rw [bitv, if_neg (by omega), if_neg (by omega)])
        simp (disch := omega) [k, hlt, hcd, hTl, e, Tl, add1', keep_cl, trunc, leTn, leFn, -Int.natCast_add]
  · obtain rfl : i = l.length := by omega
    simp
end Go.Ev
/- The laws SymEvals and SymSound. -/
namespace Go.Ev
open Go Go.RowKit
variable {G : Tbl}
set_option maxRecDepth 10000
set_option maxHeartbeats 4000000
set_option linter.unusedSimpArgs false
set_option linter.unusedVariables false
section
variable (l : List Md) (v : List Nat)
/-- What was made of what was asked. -/
noncomputable def madeS : MS := makeAll ⟨[], [], []⟩ (l.take 24)
end
theorem made_facts {l : List Md} {v : List Nat} (hv : v.length = 34) (hvw : ∀ c ∈ v, c < 4294967296) (hlc : ∀ a ∈ l, a.c < 4294967296) :
    MI v (madeS l) ∧ (madeS l).ids.length ≤ 24 ∧ (madeS l).L.length ≤ 72 := by
  have hc : ∀ a ∈ l.take 24, a.c < 4294967296 := fun a ha => hlc a (List.mem_of_mem_take ha)
  refine ⟨MI.all hv hvw _ MI.zero hc, ?_, ?_⟩
  · rw [madeS, (makeAll_len _ _).1]; simp; omega
  · have := (makeAll_ext (l.take 24) (s := ⟨[], [], []⟩) Inv.nil hc).len
    simp at this
    rw [madeS]; omega
end Go.Ev
/- What was made as a sum, or as bits, is one in the book. -/
namespace Go.Ev
open Go Go.RowKit
variable {G : Tbl}
set_option maxRecDepth 10000
set_option maxHeartbeats 4000000
set_option linter.unusedSimpArgs false
set_option linter.unusedVariables false
variable {L L' : List Nd} {l : List Md}
noncomputable def stg (l : List Md) (i : Nat) : MS := makeAll ⟨[], [], []⟩ (l.take i)
theorem stg_succ {i : Nat} {a : Md} (h : l[i]? = some a) : stg l (i + 1) = makeS (stg l i) a := by rw [stg, List.take_add_one, h]; exact makeAll_snoc _ _ _
theorem stg_len (l : List Md) {i : Nat} (h : i ≤ l.length) : (stg l i).ids.length = i ∧ (stg l i).made.length = i := by
  obtain ⟨h1, h2⟩ := makeAll_len (l.take i) ⟨[], [], []⟩
  rw [stg, h1, h2]; simp; omega
theorem stg_MI (hc : ∀ a ∈ l, a.c < 4294967296) {v : List Nat} (hv : v.length = 34) (hvw : ∀ c ∈ v, c < 4294967296) (i : Nat) : MI v (stg l i) := MI.all hv hvw _ MI.zero fun a ha => hc a (List.mem_of_mem_take ha)
theorem stg_pre (hc : ∀ a ∈ l, a.c < 4294967296) (i : Nat) : ∀ k, (stg l i).L <+: (stg l (i + k)).L ∧ (stg l i).ids <+: (stg l (i + k)).ids ∧ (stg l i).made <+: (stg l (i + k)).made
  | 0 => ⟨List.prefix_refl _, List.prefix_refl _, List.prefix_refl _⟩
  | k + 1 => by
    obtain ⟨h1, h2, h3⟩ := stg_pre hc i k
    by_cases hk : i + k < l.length
    · obtain ⟨a, ha⟩ : ∃ a, l[i + k]? = some a := ⟨_, get_in hk⟩
      have hca := hc a (List.mem_of_getElem? ha)
      rw [show i + (k + 1) = i + k + 1 by omega, stg_succ ha]
      have e := make_ext (s := stg l (i + k)) (a := a) (stg_MI hc (v := zeros 34) (by simp) (zeros_lt 34) _).inv hca
      exact ⟨h1.trans e.pre, h2.trans (List.prefix_append _ _), h3.trans (List.prefix_append _ _)⟩
    · have e : stg l (i + (k + 1)) = stg l (i + k) := by rw [stg, stg, List.take_of_length_le (by omega), List.take_of_length_le (by omega)]
      rw [e]; exact ⟨h1, h2, h3⟩
theorem pre_take {α : Type} {l l' : List α} (h : l <+: l') : l = l'.take l.length := by obtain ⟨t, rfl⟩ := h; rw [List.take_left' rfl]
/-- How a value was made. -/
inductive How (s : MS) (a : Md) : Md → Int × List Nd → Prop
  | none {b p} : b.kind = 4 → How s a b p
  | con {b} : b.kind = 0 → b.c = a.c → How s a b (putN s.L (sumNd (a.c :: zeros 34)))
  | var {b} : b.kind = 1 → 0 ≤ b.i → b.i < 34 → How s a b (varN s.L b.i)
  | alu {b} : b.kind = 2 → (doW b.op 0 1).2 = true → thereB s.made b.x = true → thereB s.made b.y = true → How s a b (bAlu s.L b.op (atI s.ids b.x) (atI s.ids b.y))
  | neg {b} : b.kind = 3 → thereB s.made b.x = true → How s a b (bNeg s.L (atI s.ids b.x))
theorem how (s : MS) (a : Md) : How s a (nextM s.made a) (makeR s a) := by
  by_cases k0 : a.kind = 0
  · have hn : nextM s.made a = ⟨0, 0, 0, 0, 0, a.c⟩ := by rw [nextM, if_pos k0]
    rw [makeR, if_pos k0, hn]; exact .con rfl rfl
  by_cases k1 : a.kind = 1
  · have hR : makeR s a = varN s.L a.i := by rw [makeR, if_neg k0, if_pos k1]
    by_cases hi : 0 ≤ a.i ∧ a.i < 34
    · have hn : nextM s.made a = ⟨1, a.i, 0, 0, 0, 0⟩ := by rw [nextM, if_neg k0, if_pos ⟨k1, hi⟩]
      rw [hn, hR]; exact .var (b := ⟨1, a.i, 0, 0, 0, 0⟩) rfl hi.1 hi.2
    · refine .none ?_
      rw [nextM, if_neg k0, if_neg (fun hh => hi hh.2), if_neg (by omega), if_neg (by omega)]; rfl
  by_cases k2 : a.kind = 2
  · have hR : makeR s a = bAlu s.L a.op (atI s.ids a.x) (atI s.ids a.y) := by rw [makeR, if_neg k0, if_neg k1, if_pos k2]
    by_cases hall : (doW a.op 0 1).2 = true ∧ thereB s.made a.x = true ∧ thereB s.made a.y = true
    · have hn : nextM s.made a = ⟨2, 0, a.op, a.x, a.y, 0⟩ := by rw [nextM, if_neg k0, if_neg (fun hh => k1 hh.1), if_pos ⟨k2, hall⟩]
      rw [hn, hR]; exact .alu (b := ⟨2, 0, a.op, a.x, a.y, 0⟩) rfl hall.1 hall.2.1 hall.2.2
    · refine .none ?_
      rw [nextM, if_neg k0, if_neg (fun hh => k1 hh.1), if_neg (fun hh => hall hh.2), if_neg (by omega)]; rfl
  by_cases k3 : a.kind = 3
  · have hR : makeR s a = bNeg s.L (atI s.ids a.x) := by rw [makeR, if_neg k0, if_neg k1, if_neg k2, if_pos k3]
    cases hx : thereB s.made a.x with
    | true =>
      have hn : nextM s.made a = ⟨3, 0, 0, a.x, 0, 0⟩ := by rw [nextM, if_neg k0, if_neg (fun hh => k1 hh.1), if_neg (fun hh => k2 hh.1), if_pos ⟨k3, hx⟩]
      rw [hn, hR]; exact .neg (b := ⟨3, 0, 0, a.x, 0, 0⟩) rfl hx
    | false =>
      refine .none ?_
      rw [nextM, if_neg k0, if_neg (fun hh => k1 hh.1), if_neg (fun hh => k2 hh.1), if_neg (by simp [hx])]; rfl
  · refine .none ?_
    rw [nextM, if_neg k0, if_neg (fun hh => k1 hh.1), if_neg (fun hh => k2 hh.1), if_neg (fun hh => k3 hh.1)]; rfl
theorem how_grow {s : MS} {a : Md} {b : Md} {p : Int × List Nd} (h : How s a b p) (hp : p = makeR s a) : Grow s.L (makeR s a).2 := by
  rw [makeR]
  split
  · exact put_grow (sum_pl _)
  · split
    · exact var_grow
    · split
      · exact alu_grow
      · split
        · exact neg_grow
        · exact .refl
theorem all_pl : ∀ (l : List Md) {s : MS}, Pl s.L → Pl (makeAll s l).L
  | [], s, h => h
  | a :: l, s, h => all_pl l (s := makeS s a) (h.grow (how_grow (how s a) rfl))
/-- What stands at a place of what was made. -/
theorem at_stage (hc : ∀ a ∈ l, a.c < 4294967296) {i : Nat} {b : Md} {x : Int} (hb : (madeS l).made[i]? = some b) (hx : (madeS l).ids[i]? = some x) :
    ∃ s : MS, ∃ a p, MI (zeros 34) s ∧ How s a b p ∧ x = p.1 ∧ p.2 <+: (madeS l).L ∧ s.L <+: (madeS l).L ∧ s.ids = (madeS l).ids.take i ∧ s.made = (madeS l).made.take i := by
  obtain ⟨m, hm⟩ : ∃ m, m = l.take 24 := ⟨_, rfl⟩
  have hcm : ∀ a ∈ m, a.c < 4294967296 := fun a ha => hc a (List.mem_of_mem_take (hm ▸ ha))
  have e : madeS l = stg m m.length := by rw [madeS, stg, ← hm, List.take_length]
  rw [e] at hb hx ⊢
  have hl := stg_len m (Nat.le_refl m.length)
  have hi : i < m.length := by have := (List.getElem?_eq_some_iff.1 hb).1; omega
  obtain ⟨a, ha⟩ : ∃ a, m[i]? = some a := ⟨_, get_in hi⟩
  obtain ⟨k, hk⟩ : ∃ k, m.length = (i + 1) + k := ⟨m.length - (i + 1), by omega⟩
  obtain ⟨k', hk'⟩ : ∃ k, m.length = i + k := ⟨m.length - i, by omega⟩
  have p1 := stg_pre hcm (i + 1) k
  have p0 := stg_pre hcm i k'
  rw [← hk] at p1
  rw [← hk'] at p0
  have li := stg_len m (show i ≤ m.length by omega)
  rw [stg_succ ha] at p1
  refine ⟨stg m i, a, makeR (stg m i) a, stg_MI hcm (by simp) (zeros_lt 34) i, ?_, ?_, p1.1, p0.1, ?_, ?_⟩
  · have := pre_get p1.2.2 (i := i) (a := nextM (stg m i).made a) (by simp only [makeS]; rw [List.getElem?_append_right (by omega), li.2]; simp)
    rw [hb] at this
    rw [Option.some.inj this]; exact how _ _
  · have := pre_get p1.2.1 (i := i) (a := (makeR (stg m i) a).1) (by simp only [makeS]; rw [List.getElem?_append_right (by omega), li.1]; simp)
    rw [hx] at this
    exact Option.some.inj this
  · have := pre_take p0.2.1; rwa [li.1] at this
  · have := pre_take p0.2.2; rwa [li.2] at this
theorem IsSum.back {n : Nat} (h : IsSum L' n) (e : L <+: L') (hn : n < L.length) : IsSum L n := by
  obtain ⟨m, a, h1, h2, h3⟩ := h
  obtain rfl : n = m := by omega
  have := pre_get e (get_in hn)
  rw [h2] at this
  cases this
  exact ⟨n, _, rfl, get_in hn, h3⟩
theorem IsBit.back {n : Nat} {P : Int → Prop} (h : IsBit L' n P) (e : L <+: L') (hn : n < L.length) : IsBit L n P := by
  obtain ⟨m, a, p, h1, h2, h3⟩ := h
  obtain rfl : n = m := by omega
  have := pre_get e (get_in hn)
  rw [h2] at this
  cases this
  exact ⟨n, _, p, rfl, get_in hn, h3⟩
theorem sumsL_get (l : List Md) : ∀ {N i : Nat}, i < N → (sumsL l N)[i]? = some (sumv l (sumsL l i) (l.getD i noMd))
  | N + 1, i, h => by
    rw [sumsL]
    by_cases hi : i < N
    · rw [List.getElem?_append_left (by rw [sumsL_len]; exact hi)]; exact sumsL_get l hi
    · obtain rfl : i = N := by omega
      rw [List.getElem?_append_right (by rw [sumsL_len]; omega), sumsL_len, Nat.sub_self]; rfl
theorem bitsL_get (l : List Md) : ∀ {N i : Nat}, i < N → (bitsL l N)[i]? = some (bitv (cntT ((varsL' l l.length).getD i []) 34) (bitsL l i) (l.getD i noMd))
  | N + 1, i, h => by
    rw [bitsL]
    by_cases hi : i < N
    · rw [List.getElem?_append_left (by rw [bitsL_len]; exact hi)]; exact bitsL_get l hi
    · obtain rfl : i = N := by omega
      rw [List.getElem?_append_right (by rw [bitsL_len]; omega), bitsL_len, Nat.sub_self]; rfl
theorem varsL'_get (l : List Md) : ∀ {N i : Nat}, i < N → (varsL' l N)[i]? = some (rowV (varsL' l i) (l.getD i noMd))
  | N + 1, i, h => by
    rw [varsL']
    by_cases hi : i < N
    · rw [List.getElem?_append_left (by rw [varsL'_len]; exact hi)]; exact varsL'_get l hi
    · obtain rfl : i = N := by omega
      rw [List.getElem?_append_right (by rw [varsL'_len]; omega), varsL'_len, Nat.sub_self]; rfl
/-- A number of what stands ahead. -/
theorem ahead {s f : MS} {i : Nat} {x : Int} (hM : MI (zeros 34) s) (e1 : s.ids = f.ids.take i) (e2 : s.made = f.made.take i) (hx : thereB s.made x = true) :
    ∃ n m : Nat, ∃ c, x = n ∧ n < i ∧ f.made[n]? = some c ∧ c.kind ≠ 4 ∧ f.ids[n]? = some (m : Int) ∧ atI s.ids x = m ∧ m < s.L.length := by
  obtain ⟨n, m, h1, h2, h3, h4, _⟩ := hM.there hx
  have hni : n < i := by rw [e2, List.length_take] at h2; omega
  obtain ⟨c, hcc⟩ : ∃ c, s.made[n]? = some c := ⟨_, get_in h2⟩
  obtain ⟨y, hy⟩ : ∃ y, s.ids[n]? = some y := ⟨_, get_in (by rw [hM.len]; exact h2)⟩
  have hym : y = m := by
    rw [atI, h1, if_pos ⟨by omega, by rw [hM.len]; omega⟩, Int.toNat_natCast, hy] at h3
    exact h3
  subst h1
  refine ⟨n, m, c, rfl, hni, ?_, ?_, ?_, h3, h4⟩
  · rw [e2, List.getElem?_take, if_pos hni] at hcc; exact hcc
  · simp only [thereB, Int.toNat_natCast, hcc, Bool.and_eq_true, decide_eq_true_eq] at hx; exact hx.2
  · rw [e1, List.getElem?_take, if_pos hni, hym] at hy; exact hy
theorem made_sum (hc : ∀ a ∈ l, a.c < 4294967296) : ∀ (i : Nat) {b : Md} {x : Int}, (madeS l).made[i]? = some b → (madeS l).ids[i]? = some x →
    (b.kind = 0 → ∃ n : Nat, x = n ∧ (madeS l).L[n]? = some (sumNd (b.c :: zeros 34))) ∧ ((sumsL (madeS l).made (madeS l).made.length)[i]? = some true → b.kind ≠ 4 → IsSum (madeS l).L x) := by
  intro i
  induction i using Nat.strongRecOn with
  | _ i ih =>
    intro b x hb hx
    obtain ⟨s, a, p, hM, hh, rfl, p1, p0, e1, e2⟩ := at_stage hc hb hx
    obtain ⟨M, hMd⟩ : ∃ M, M = (madeS l).made := ⟨_, rfl⟩
    rw [← hMd] at hb e2 ih ⊢
    have hil := (List.getElem?_eq_some_iff.1 hb).1
    have hbD := getD_md hb
    rw [sumsL_get M hil, hbD]
    have sub : ∀ n, n < i → (sumsL M i)[n]? = (sumsL M M.length)[n]? := fun n hn => by rw [sumsL_get M hn, sumsL_get M (show n < M.length by omega)]
    have opd : ∀ {x : Int}, thereB s.made x = true → atB (sumsL M i) x = true → IsSum s.L (atI s.ids x) := fun {x} ht hs => by
      obtain ⟨n, m, c, rfl, hn, h1, h2, h3, h4, h5⟩ := ahead hM e1 (f := madeS l) (by rw [← hMd]; exact e2) ht
      rw [← hMd] at h1
      rw [atB, Int.toNat_natCast, List.getD_eq_getElem?_getD, sub n hn] at hs
      have hs' : (sumsL M M.length)[n]? = some true := by
        cases hq : (sumsL M M.length)[n]? with
        | none => rw [hq] at hs; cases hs
        | some b => rw [hq] at hs; simp at hs; rw [hs]
      rw [h4]
      exact ((ih n hn h1 h3).2 hs' h2).back p0 h5
    cases hh with
    | none h4 => exact ⟨fun h => by omega, fun _ h => absurd h4 h⟩
    | con h0 hcc =>
      refine ⟨fun _ => ?_, fun _ _ => (put_sum _ _).pre p1⟩
      obtain ⟨n, h1, h2⟩ := put_at s.L (sumNd (a.c :: zeros 34))
      exact ⟨n, h1, by rw [hcc]; exact pre_get p1 h2⟩
    | var h1 hi0 hi1 => exact ⟨fun h => by omega, fun _ _ => (var_sum hi0 hi1).pre p1⟩
    | alu h2 hv ht hu =>
      refine ⟨fun h => by omega, fun hs _ => ?_⟩
      rw [Option.some.injEq, sumv, if_neg (by omega), if_pos h2] at hs
      split at hs
      · rename_i ho
        rw [Bool.and_eq_true] at hs
        exact (alu_sum ho (opd ht hs.1) (opd hu hs.2)).pre p1
      · split at hs
        · rename_i ho
          rw [Bool.and_eq_true, decide_eq_true_eq] at hs
          obtain ⟨n, m, c, e, hn, h1, h2', h3, h4, h5⟩ := ahead hM e1 (f := madeS l) (by rw [← hMd]; exact e2) hu
          rw [← hMd] at h1
          have hk : c.kind = 0 := by have := hs.2; rw [e, Int.toNat_natCast, getD_md h1] at this; exact this
          obtain ⟨q, hq, hq2⟩ := (ih n hn h1 h3).1 hk
          obtain rfl : m = q := by omega
          have hq3 : s.L[m]? = some (sumNd (c.c :: zeros 34)) := by
            have := pre_get p0 (get_in h5)
            rw [hq2] at this
            rw [get_in h5, ← this]
          exact (alu_sumc ho (opd ht hs.1) h4 hq3).pre p1
        · cases hs
    | neg h3 ht =>
      refine ⟨fun h => by omega, fun hs _ => ?_⟩
      rw [Option.some.injEq, sumv, if_neg (by omega), if_neg (by omega), if_pos h3] at hs
      exact (neg_sum (opd ht hs)).pre p1
theorem up_four {r : List Bool} (hr : r.length = 34) (hn : cntT r 34 ≤ 4) {q : List Int} (hu : Up q) (hq : ∀ v ∈ q, r.getD v.toNat false = true ∧ 0 ≤ v ∧ v < 34) : q.length ≤ 4 := by
  obtain ⟨b, hb⟩ : ∃ b : List Int, b = ((List.range 34).filter fun k => r.getD k false).map fun (k : Nat) => (k : Int) := ⟨_, rfl⟩
  have hbu : Up b := by
    rw [hb, Up, List.pairwise_map]
    exact (List.pairwise_lt_range.filter _).imp fun h => by omega
  have hs := up_sub hu hbu fun v hv => by
    obtain ⟨h1, h2, h3⟩ := hq v hv
    rw [hb, List.mem_map]
    exact ⟨v.toNat, List.mem_filter.2 ⟨List.mem_range.2 (by omega), h1⟩, by omega⟩
  have hl := hs.length_le
  have hbl : b.length = cntT r 34 := by
    rw [hb, List.length_map, ← List.countP_eq_length_filter, cntT, List.take_of_length_le (by omega)]
    have : r = (List.range 34).map fun k => r.getD k false := by
      refine List.ext_getElem? fun k => ?_
      by_cases hk : k < 34
      · simp [hk, get_in (show k < r.length by omega)]
      · rw [List.getElem?_eq_none (by omega), List.getElem?_eq_none (by simp; omega)]
    conv => rhs; rw [this]
    rw [List.countP_map]; rfl
  omega
theorem made_bit [HasBits G] (hc : ∀ a ∈ l, a.c < 4294967296) : ∀ (i : Nat) {b : Md} {x : Int}, (madeS l).made[i]? = some b → (madeS l).ids[i]? = some x →
    (bitsL (madeS l).made (madeS l).made.length)[i]? = some true → b.kind ≠ 4 → IsBit (madeS l).L x fun v => 0 ≤ v ∧ v < 34 ∧ atV (varsL' (madeS l).made (madeS l).made.length) (i : Int) v.toNat = true := by
  intro i
  induction i using Nat.strongRecOn with
  | _ i ih =>
    intro b x hb hx hbit h4
    obtain ⟨s, a, p, hM, hh, rfl, p1, p0, e1, e2⟩ := at_stage hc hb hx
    obtain ⟨M, hMd⟩ : ∃ M, M = (madeS l).made := ⟨_, rfl⟩
    rw [← hMd] at hb e2 ih hbit ⊢
    have hil := (List.getElem?_eq_some_iff.1 hb).1
    have hbD := getD_md hb
    rw [bitsL_get M hil, hbD, Option.some.injEq] at hbit
    have sub : ∀ n, n < i → (bitsL M i)[n]? = (bitsL M M.length)[n]? := fun n hn => by rw [bitsL_get M hn, bitsL_get M (show n < M.length by omega)]
    have subv : ∀ n k, n < i → atV (varsL' M i) (n : Int) k = atV (varsL' M M.length) (n : Int) k := fun n k hn => by
      rw [atV, atV, Int.toNat_natCast, List.getD_eq_getElem?_getD (l := varsL' M i), List.getD_eq_getElem?_getD (l := varsL' M M.length), varsL'_get M hn, varsL'_get M (show n < M.length by omega)]
    have row : ∀ k, k < 34 → atV (varsL' M M.length) (i : Int) k = varv (varsL' M i) b k := fun k hk => by
      rw [atV, Int.toNat_natCast, List.getD_eq_getElem?_getD (l := varsL' M M.length), varsL'_get M hil, hbD, Option.getD_some, rowV]
      simp [hk]
    cases hh with
    | none h => exact absurd h h4
    | con h0 hcc => exact (const_bit _ _ _).pre p1
    | var h1 hi0 hi1 =>
      refine (var_bit hi0 hi1 ⟨hi0, hi1, ?_⟩).pre p1
      rw [row _ (by omega), varv]
      have : b.i = ((b.i.toNat : Nat) : Int) := by omega
      simp [h1, ← this]
    | alu h2 hv ht hu =>
      rw [bitv, if_neg (by omega)] at hbit
      split at hbit
      case isFalse => cases hbit
      rename_i ho
      simp only [Bool.and_eq_true, decide_eq_true_eq] at hbit
      obtain ⟨⟨hn4, hbx⟩, hby⟩ := hbit
      have opd : ∀ {x : Int}, thereB s.made x = true → atB (bitsL M i) x = true → (x = b.x ∨ x = b.y) → IsBit s.L (atI s.ids x) fun v => 0 ≤ v ∧ v < 34 ∧ atV (varsL' M M.length) (i : Int) v.toNat = true := fun {x} ht hs hxy => by
        obtain ⟨n, m, c, e, hn, h1, h2', h3, h4', h5⟩ := ahead hM e1 (f := madeS l) (by rw [← hMd]; exact e2) ht
        rw [← hMd] at h1
        have hs0 := hs
        rw [atB, e, Int.toNat_natCast, List.getD_eq_getElem?_getD, sub n hn] at hs0
        have hs' : (bitsL M M.length)[n]? = some true := by
          cases hq : (bitsL M M.length)[n]? with
          | none => rw [hq] at hs0; cases hs0
          | some b => rw [hq] at hs0; simp at hs0; rw [hs0]
        rw [h4']
        refine ((ih n hn h1 h3 hs' h2').back p0 h5).mono fun v hv => ⟨hv.1, hv.2.1, ?_⟩
        rw [row _ (by omega), varv]
        have hvv : atV (varsL' M i) x v.toNat = true := by rw [e, subv n _ hn]; exact hv.2.2
        rcases hxy with rfl | rfl
        · simp [h2, hvv]
        · simp [h2, hvv]
      have hrow : ∃ r, (varsL' M M.length)[i]? = some r ∧ r.length = 34 := by
        obtain ⟨r, hr⟩ : ∃ r, (varsL' M M.length)[i]? = some r := ⟨_, get_in (by rw [varsL'_len]; exact hil)⟩
        exact ⟨r, hr, varsL'_row _ _ r (List.mem_of_getElem? hr)⟩
      obtain ⟨r, hr, hrl⟩ := hrow
      have hrD : (varsL' M M.length).getD i [] = r := by rw [List.getD_eq_getElem?_getD, hr]; rfl
      rw [hrD] at hn4
      refine (alu_bit (G := G) hM.inv ho.2 (opd ht hbx (.inl rfl)) (opd hu hby (.inr rfl)) fun q hq hqv => up_four hrl hn4 hq fun v hv => ?_).pre p1
      obtain ⟨⟨h0, h34, hvv⟩, _⟩ := hqv v hv
      rw [atV, Int.toNat_natCast, hrD] at hvv
      exact ⟨hvv, h0, h34⟩
    | neg h3 ht =>
      rw [bitv, if_neg (by omega), if_neg (by omega)] at hbit
      cases hbit
end Go.Ev
/- The values behind an instruction of a window. -/
namespace Go.Ev
open Go Go.RowKit
variable {G : Tbl}
set_option maxRecDepth 10000
set_option maxHeartbeats 4000000
set_option linter.unusedSimpArgs false
set_option linter.unusedVariables false
variable {H : Heap} {b z m : Nat} {L : List Nd}
/-- A window's values: their numbers in a book, and its stops. -/
structure VS where
  L : List Nd
  p : List Int
  st : List Int
section
variable {p st : List Int} {tk : Tk}
end
section
variable {α : Type} {H l : List α} {n : Nat} (h : H.length = n)
include h
theorem apn0 : (H ++ l)[n]? = l[0]? := by subst h; exact ap0 H l
theorem setn0 (x : α) : (H ++ l).set n x = H ++ l.set 0 x := by subst h; exact set0 H l x
end
end Go.Ev
/- The law SymExact. -/
namespace Go.Ev
open Go Go.RowKit
variable {G : Tbl}
set_option maxRecDepth 10000
set_option maxHeartbeats 4000000
set_option linter.unusedSimpArgs false
set_option linter.unusedVariables false
def newH0 : Heap := [some (.map []), some (.cells [.vs [] (.own 2), .mp 0]), some (.zone 0)]
theorem newH0_bk : Bk newH0 1 2 0 [] := by
  refine ⟨rfl, rfl, rfl, fun n hn => ?_, fun a h => (by cases h), by decide⟩
  simp only [newH0, List.length_cons, List.length_nil] at hn
  simp [newH0, Blk.cl, clL, V.cl, Tk.cl, show 2 < n by omega, show 0 < n by omega]
theorem New0_ok [HasSymNew G] : Big G (.F 256 [] [] (.ptr 1 0) [some (.map []), some (.cells [.vs [] .full, .mp 0])]) := by
  refine F_of HasSymNew.h_sym_New (Nat.le_of_ble_eq_true rfl) ?_
  simp
theorem SymExact_ok [HasWd G] [HasAffApart G] [HasAffine G] [hBA : HasBitsA G] [HasSymNew G] [HasSym G] [HasSymApart G] [HasR1 G] [HasR1n G] [HasR16 G] [HasL16 G] [HasL16x G] (hkn : FP G 284 [] (.bool true)) (l : List Md) (hlc : ∀ a ∈ l, a.c < 4294967296) (hll : l.length ≤ 9223372036854775807) :
    FP G 290 [.vs (mds l) .no] (.bool true) := by
  haveI : HasBits G := hBA.toHasBits
  refine FP_of HasL16x.h_hurdlelaw16_SymExact (Nat.le_of_ble_eq_true rfl) ?_
  have hB := newH0_bk
  have hfs := fun v hv hvw => made_facts (v := v) hv hvw hlc
  obtain ⟨hM0, hidl, hLl⟩ := hfs (zeros 34) (by simp) (zeros_lt 34)
  have hms := made_sum hlc
  have hmb := made_bit (G := G) hlc
  have hpl : Pl (madeS l).L := all_pl _ Pl.nil
  have hmk := Make_ok (G := G) l hB Inv.nil (by decide) hlc hll
  obtain ⟨s, hs⟩ : ∃ s, s = madeS l := ⟨_, rfl⟩
  change SF G 286 _ _ (.tup [.vs (ints .i64 (madeS l).ids) .no, .vs (mds (madeS l).made) .no]) (upd newH0 1 2 0 (madeS l).L) at hmk
  rw [← hs] at hM0 hidl hLl hmk hfs hms hmb hpl
  have hml : s.made.length ≤ 24 := by rw [← hM0.len]; exact hidl
  have hsu := Sums16_ok (G := G) s.made (by omega) hM0.ok
  have hbi := Bits16_ok (G := G) s.made (by omega) hM0.ok
  have hsl := sumsL_len s.made s.made.length
  have hbl := bitsL_len s.made s.made.length
  obtain ⟨SS, hSS⟩ : ∃ SS, SS = sumsL s.made s.made.length := ⟨_, rfl⟩
  obtain ⟨BS, hBS⟩ : ∃ BS, BS = bitsL s.made s.made.length := ⟨_, rfl⟩
  rw [← hSS] at hsu hsl hms
  rw [← hBS] at hbi hbl hmb
  obtain ⟨U, hU⟩ : ∃ U, U = upd newH0 1 2 0 s.L := ⟨_, rfl⟩
  have hUB : Bk U 1 2 0 s.L := by rw [hU]; exact hB.to hM0.inv (by omega)
  rw [← hU] at hmk
  have hUs := hUB.shut.self
  have hUb := hUB.shut.back
  have hUl : U.length = 3 := by rw [hU, upd_len]; rfl
  rw [hUl] at hUs hUb
  have hUBn : Bk (U ++ [none]) 1 2 0 s.L := hUB.app fun n => by simp
  have u3 : ∀ r : Heap, (U ++ r)[3]? = r[0]? := fun r => apn0 hUl
  have v3 : ∀ (r : Heap) x, (U ++ r).set 3 x = U ++ r.set 0 x := fun r x => setn0 hUl x
  simp
  refine callK_of New0_ok (by simp) ?_
  simp
  rw [show ([some (.map []), some (.cells [.vs [] (.own 2), .mp 0]), some (.zone 0)] : Heap) = newH0 from rfl]
  refine callSF_of hmk ?_
  simp
  refine callP_of hsu ?_
  simp
  refine callP_of hbi ?_
  simp
  have hlen := hM0.len
  refine W_up s.ids.length (fun i => [(3, .ptr 1 0), (4, .vs (ints .i64 s.ids) .no), (5, .vs (mds s.made) .no), (6, .vs (bools SS) .no), (7, .vs (bools BS) .no), (8, .int .i64 i)]) (fun _ => U) (fun _ => True) ?_ ?_
  · simp [keep_cl, hUl, hUs]
  intro i hi _
  by_cases hlt : i < s.ids.length
  · have hilt : ((i : Int) < (s.ids.length : Int)) = True := eq_true (by omega)
    simp [hilt, hlt]
    refine W_up i (fun k => [(3, .ptr 1 0), (4, .vs (ints .i64 s.ids) .no), (5, .vs (mds s.made) .no), (6, .vs (bools SS) .no), (7, .vs (bools BS) .no), (8, .int .i64 i), (9, .int .i64 k)]) (fun _ => U) (fun _ => True) ?_ ?_
    · simp [keep_cl, hUl, hUs]
    intro k hk _
    by_cases hkt : k < i
    · obtain ⟨x, hx⟩ : ∃ x, s.ids[i]? = some x := ⟨_, get_in hlt⟩
      obtain ⟨y, hy⟩ : ∃ x, s.ids[k]? = some x := ⟨_, get_in (by omega)⟩
      obtain ⟨a, ha⟩ : ∃ a, s.made[i]? = some a := ⟨_, get_in (by omega)⟩
      obtain ⟨c, hc⟩ : ∃ a, s.made[k]? = some a := ⟨_, get_in (by omega)⟩
      have ga := mds_get ha
      have gc := mds_get hc
      have acs : a.cs.length = 6 := rfl
      have ccs : c.cs.length = 6 := rfl
      have ac0 : a.cs.take 1 = [.int .i64 a.kind] := rfl
      have cc0 : c.cs.take 1 = [.int .i64 c.kind] := rfl
      have ga' := (List.getElem?_eq_some_iff.1 ga).2
      have gc' := (List.getElem?_eq_some_iff.1 gc).2
      have hkit : ((k : Int) < (i : Int)) = True := eq_true (by omega)
      have him : i < s.made.length := by omega
      have hkm : k < s.made.length := by omega
      have skip : ∀ K : Prop, True := fun _ => trivial
      by_cases ka : a.kind = 4
      · simp (disch := omega) [hkit, hkt, hlt, ga, ga', acs, ac0, ka, him, hkm, keep_cl, hUl, hUs, add1', -Int.natCast_add]
      by_cases kc : c.kind = 4
      · simp (disch := omega) [hkit, hkt, hlt, ga, ga', gc, gc', acs, ac0, ccs, cc0, beqF ka, ka, kc, him, hkm, keep_cl, hUl, hUs, add1', -Int.natCast_add]
      have gx : (ints .i64 s.ids)[i]? = some [.int .i64 x] := by simp [hx]
      have gy : (ints .i64 s.ids)[k]? = some [.int .i64 y] := by simp [hy]
      have gx' := (List.getElem?_eq_some_iff.1 gx).2
      have gy' := (List.getElem?_eq_some_iff.1 gy).2
      have hap := Apart_F (G := G) x y hUBn hM0.inv
      have hal := apB_len s.L x y
      obtain ⟨v, hv⟩ : ∃ v, v = (apB s.L x y).1 := ⟨_, rfl⟩
      obtain ⟨ok, hok⟩ : ∃ ok, ok = (apB s.L x y).2 := ⟨_, rfl⟩
      rw [← hv] at hap hal
      rw [← hok] at hap
      have hvt := take_full (k := .u32) hal.1
      obtain ⟨hM, _, _⟩ := hfs v hal.1 hal.2
      have hev := Eval16_ok (G := G) s.made v (by omega) hM.ok hal.1 hal.2
      have rl := refs_len (v := v) s.made
      obtain ⟨o, ho⟩ : ∃ o, (refs v s.made)[i]? = some o := ⟨_, get_in (by omega)⟩
      obtain ⟨q, hq⟩ : ∃ o, (refs v s.made)[k]? = some o := ⟨_, get_in (by omega)⟩
      obtain ⟨R, hR⟩ : ∃ R, R = refs v s.made := ⟨_, rfl⟩
      have hrx : ∃ n : Nat, x = n ∧ n < s.L.length ∧ valI v s.L n = o := by
        rcases hM.rel i x a o hx ha ho with ⟨h, _⟩ | ⟨_, h⟩
        · exact absurd h ka
        · exact h
      have hry : ∃ n : Nat, y = n ∧ n < s.L.length ∧ valI v s.L n = q := by
        rcases hM.rel k y c q hy hc hq with ⟨h, _⟩ | ⟨_, h⟩
        · exact absurd h kc
        · exact h
      obtain ⟨nx, ex, lx, vx⟩ := hrx
      obtain ⟨ny, ey, ly, vy⟩ := hry
      rw [← hR] at hev rl ho hq
      have go : (ovs R)[i]? = some [.int .u32 (o.getD 0 : Nat)] := by simp [ovs, ho]
      have gq : (ovs R)[k]? = some [.int .u32 (q.getD 0 : Nat)] := by simp [ovs, hq]
      have gbo : (obs R)[i]? = some [.bool o.isSome] := by simp [obs, ho]
      have gbq : (obs R)[k]? = some [.bool q.isSome] := by simp [obs, hq]
      have go' := (List.getElem?_eq_some_iff.1 go).2
      have gq' := (List.getElem?_eq_some_iff.1 gq).2
      have gbo' := (List.getElem?_eq_some_iff.1 gbo).2
      have gbq' := (List.getElem?_eq_some_iff.1 gbq).2
      have lov : (ovs R).length = s.made.length := by simp [ovs, rl]
      have lob : (obs R).length = s.made.length := by simp [obs, rl]
      obtain ⟨su, hsui⟩ : ∃ b, SS[i]? = some b := ⟨_, get_in (by omega)⟩
      obtain ⟨sw, hswk⟩ : ∃ b, SS[k]? = some b := ⟨_, get_in (by omega)⟩
      obtain ⟨bu, hbui⟩ : ∃ b, BS[i]? = some b := ⟨_, get_in (by omega)⟩
      obtain ⟨bw, hbwk⟩ : ∃ b, BS[k]? = some b := ⟨_, get_in (by omega)⟩
      have gsu : (bools SS)[i]? = some [.bool su] := by simp [bools, hsui]
      have gsw : (bools SS)[k]? = some [.bool sw] := by simp [bools, hswk]
      have gbu : (bools BS)[i]? = some [.bool bu] := by simp [bools, hbui]
      have gbw : (bools BS)[k]? = some [.bool bw] := by simp [bools, hbwk]
      have gsu' := (List.getElem?_eq_some_iff.1 gsu).2
      have gsw' := (List.getElem?_eq_some_iff.1 gsw).2
      have gbu' := (List.getElem?_eq_some_iff.1 gbu).2
      have gbw' := (List.getElem?_eq_some_iff.1 gbw).2
      have lss : (bools SS).length = s.made.length := by simp [bools, hsl]
      have lbs : (bools BS).length = s.made.length := by simp [bools, hbl]
      -- what holds
      have fact1 : ok = true → x ≠ y ∧ ∃ u w : Nat, o = some u ∧ q = some w ∧ u ≠ w := fun h => by
        rw [hok] at h
        obtain ⟨_, _, hne, u, w, h1, h2, h3⟩ := apB_tells hM.inv h
        rw [← hv, ex, vx] at h1
        rw [← hv, ey, vy] at h2
        exact ⟨hne, u, w, h1, h2, h3⟩
      have fact2 : (su && sw || bu && bw) = true → x ≠ y → ok = true := fun h hne => by
        rw [hok]
        have hnn : nx ≠ ny := fun e => hne (by rw [ex, ey, e])
        simp only [Bool.or_eq_true, Bool.and_eq_true] at h
        rw [ex, ey]
        rcases h with ⟨h1, h2⟩ | ⟨h1, h2⟩
        · obtain ⟨n1, a1, e1, g1, k1⟩ := (hms i ha hx).2 (by rw [hsui, h1]) ka
          obtain ⟨n2, a2, e2, g2, k2⟩ := (hms k hc hy).2 (by rw [hswk, h2]) kc
          obtain rfl : nx = n1 := by omega
          obtain rfl : ny = n2 := by omega
          exact apB_exact hM.inv hpl g1 g2 hnn (.inl ⟨k1, k2⟩)
        · obtain ⟨n1, a1, p1, e1, g1, k1, _⟩ := hmb i ha hx (by rw [hbui, h1]) ka
          obtain ⟨n2, a2, p2, e2, g2, k2, _⟩ := hmb k hc hy (by rw [hbwk, h2]) kc
          obtain rfl : nx = n1 := by omega
          obtain rfl : ny = n2 := by omega
          exact apB_exact hM.inv hpl g1 g2 hnn (.inr ⟨by rw [k1]; rfl, by rw [k2]; rfl⟩)
      simp (disch := omega) [hkit, hkt, hlt, ga, ga', gc, gc', acs, ac0, ccs, cc0, beqF ka, beqF kc, ka, kc, him, hkm, gx, gx', gy, gy', hUl, hlen]
      refine callEF_of hap ⟨?_, ?_, rfl⟩ ?_
      · intro v hv
        simp only [List.mem_cons, List.not_mem_nil, or_false] at hv
        rcases hv with rfl | rfl | rfl <;> simp [V.cl]
      · have hUs' := hUs
        unfold trunc at hUs'
        rw [List.take_of_length_le (Nat.le_of_eq hUl)] at hUs'
        simp only [List.map_append, hUs', List.map_cons, List.map_nil, Option.map_none]
      simp (disch := omega) [u3, v3, hal.1, hvt, hUl]
      refine callP_of (row16_ok v hal.1) ?_
      simp
      refine callP_of hev ?_
      have hiR : i < R.length := by omega
      have hkR : k < R.length := by omega
      cases ok with
      | true =>
        obtain ⟨hne, u, w, rfl, rfl, huw⟩ := fact1 rfl
        have hb : ((u : Int) == (w : Int)) = false := beqF (by omega)
        have hxy : (x != y) = true := bneT hne
        simp at go gq go' gq'
        simp (disch := omega) [hkit, hkt, hlt, go, go', gq, gq', lov, lob, him, hkm, hb, huw]
        cases su <;> cases sw <;> cases bu <;> cases bw <;>
        simp (disch := omega) [gsu, gsu', gsw, gsw', gbu, gbu', gbw, gbw', lss, lbs, him, hkm, hxy, hne, gx, gx', gy, gy', hlt, hkt, hlen, keep_cl, hUl, hUs, hUb, add1', -Int.natCast_add]
      | false =>
        simp (disch := omega) [hkit, hkt, hlt, lov, lob, him, hkm]
        by_cases hxy : x = y
        · subst hxy
          cases su <;> cases sw <;> cases bu <;> cases bw <;>
          simp (disch := omega) [gsu, gsu', gsw, gsw', gbu, gbu', gbw, gbw', lss, lbs, him, hkm, gx, gx', gy, gy', hlt, hkt, hlen, keep_cl, hUl, hUs, hUb, add1', -Int.natCast_add]
        · have hf : (su && sw || bu && bw) = false := by
            cases e : (su && sw || bu && bw) with
            | false => rfl
            | true => exact absurd (fact2 e hxy) (by simp)
          cases su <;> cases sw <;> cases bu <;> cases bw <;> simp at hf <;>
          simp (disch := omega) [gsu, gsu', gsw, gsw', gbu, gbu', gbw, gbw', lss, lbs, him, hkm, gx, gx', gy, gy', hlt, hkt, hlen, keep_cl, hUl, hUs, hUb, add1', -Int.natCast_add]
    · obtain rfl : k = i := by omega
      simp (disch := omega) [hlt, keep_cl, hUl, hUs, add1', -Int.natCast_add]
  · simp [hlt]
    refine callP_of hkn ?_
    simp
end Go.Ev
/- A law's row: arguments that read as data are canonical, and read behind the call as they read before. -/
namespace Go.Ev
open Go Go.RowKit Go.ChangeShapes Go.WideShapes
variable {P : Program} {fm : Fm} {w : World} {Hh : Type} {enc : TypeId × Value → Hh}
/-- A canonical argument of a shape. -/
def ArgIs : Ty → V → Prop
  | .agg fs, v => ∃ cs, v = .agg cs ∧ HasTy (.agg fs) cs
  | .arr n e, v => ∃ cs, v = .agg cs ∧ HasTy (.arr n e) cs
  | t, v => HasTy t [v]
def ArgsAre : List Ty → List V → Prop
  | [], vs => vs = []
  | t :: ts, vs => ∃ v r, vs = v :: r ∧ ArgIs t v ∧ ArgsAre ts r
theorem one_cell {v : Value} {c : V} (h : EncL (M0 fm) w [c] v.cells.toList) (hv : ∀ cs, v ≠ .agg cs) (ht : ∀ cs, v ≠ .tuple cs) : Enc (M0 fm) w c v := by
  simp only [EncL] at h
  obtain ⟨x, xs', hx, h1, h2⟩ := h
  subst h2
  have : v.cells = #[v] := by cases v <;> first | rfl | (exact absurd rfl (hv _)) | (exact absurd rfl (ht _))
  rw [this] at hx
  simp at hx
  subst hx
  exact h1
theorem open_arg {b0 : Nat} {ty : Ty} {t : TypeId} {v : Value} {d : DataW Hh} {ps : List MemPlace} (ht : tyIs P t ty = true) (hv : Value.okWide P w .any b0 t v) (hd : DataW.Trod enc P w 0 (fun _ => true) true t v d ps) :
    ∃ c, ArgIs ty c ∧ Enc (M0 fm) w c v := by
  obtain ⟨fuel, hd⟩ := hd
  obtain ⟨cs, hc, he⟩ := open_ty (fm := fm) ht hd
  cases ty with
  | int k =>
    obtain ⟨n, rfl⟩ := okWide_int (isInt_spec (by simpa only [tyIs] using ht)) hv
    simp only [HasTy] at hc
    obtain ⟨m, rfl, hw⟩ := hc
    exact ⟨_, ⟨m, rfl, hw⟩, one_cell he (by simp) (by simp)⟩
  | bool =>
    obtain ⟨n, rfl⟩ := okWide_bool (isBool_spec (by simpa only [tyIs] using ht)) hv
    simp only [HasTy] at hc
    obtain ⟨m, rfl⟩ := hc
    exact ⟨_, ⟨m, rfl⟩, one_cell he (by simp) (by simp)⟩
  | str =>
    obtain ⟨n, rfl⟩ := okWide_string (isStr_spec (by simpa only [tyIs] using ht)) hv
    simp only [HasTy] at hc
    obtain ⟨m, rfl, hw⟩ := hc
    exact ⟨_, ⟨m, rfl, hw⟩, one_cell he (by simp) (by simp)⟩
  | sl e =>
    simp only [tyIs] at ht
    split at ht
    case h_2 => cases ht
    rename_i el hu
    obtain ⟨a, len, cap, rfl⟩ := okWide_slice hu hv
    simp only [HasTy] at hc
    obtain ⟨es, rfl, h1, h2⟩ := hc
    exact ⟨_, ⟨es, rfl, h1, h2⟩, one_cell he (by simp) (by simp)⟩
  | agg fs =>
    have hp : ∀ c ∈ cs, c.scal = true := fun c hx => V.scal_of_pure (HasTy.pure hc c hx)
    simp only [tyIs] at ht
    split at ht
    case h_2 => cases ht
    rename_i gs hu
    unfold Value.okWide at hv
    rw [hu] at hv
    obtain ⟨xs, rfl, _, _⟩ := hv
    refine ⟨.agg cs, ⟨cs, rfl, hc⟩, ?_⟩
    simp only [Enc]
    exact ⟨hp, xs.toList, by simp, he⟩
  | arr n e =>
    have hp : ∀ c ∈ cs, c.scal = true := fun c hx => V.scal_of_pure (HasTy.pure hc c hx)
    simp only [tyIs] at ht
    split at ht
    case h_2 => cases ht
    rename_i m el hu
    unfold Value.okWide at hv
    rw [hu] at hv
    obtain ⟨xs, rfl, _, _⟩ := hv
    refine ⟨.agg cs, ⟨cs, rfl, hc⟩, ?_⟩
    simp only [Enc]
    exact ⟨hp, xs.toList, by simp, he⟩
/-- All arguments. -/
theorem open_args {b0 : Nat} : ∀ {tys : List Ty} {ts : List TypeId} {vs : List Value} {ds : List (DataW Hh)} {ps : List MemPlace}, (∀ (i : Nat) (ty : Ty) (t : TypeId), tys[i]? = some ty → ts[i]? = some t → tyIs P t ty = true) → tys.length = ts.length →
    (∀ (j : Nat) t v, ts[j]? = some t → vs[j]? = some v → Value.okWide P w .any b0 t v) → DataW.TrodAll enc P w 0 (fun _ => true) true ts vs ds ps →
    ∃ cs, ArgsAre tys cs ∧ EncL (M0 fm) w cs vs
  | [], [], vs, ds, ps, _, _, _, h => by
    obtain ⟨rfl, rfl, rfl⟩ := trodAll_nil h
    exact ⟨[], by simp only [ArgsAre], by simp only [EncL]⟩
  | ty :: tys, t :: ts, vs, ds, ps, ht, hl, hv, h => by
    obtain ⟨v, vs', d, ds', p, q, rfl, rfl, rfl, h1, h2⟩ := trodAll_cons h
    obtain ⟨c, hc, he⟩ := open_arg (fm := fm) (ht 0 ty t rfl rfl) (hv 0 t v rfl rfl) h1
    obtain ⟨cs, hcs, hes⟩ := open_args (tys := tys) (fun i a b h3 h4 => ht (i + 1) a b (by simpa using h3) (by simpa using h4)) (by simpa using hl) (fun j a b h3 h4 => hv (j + 1) a b (by simpa using h3) (by simpa using h4)) h2
    refine ⟨c :: cs, ?_, ?_⟩
    · simp only [ArgsAre]; exact ⟨c, cs, rfl, hc, hcs⟩
    · simp only [EncL]; exact ⟨v, vs', rfl, he, hes⟩
  | [], _ :: _, _, _, _, _, hl, _, _ => by simp at hl
  | _ :: _, [], _, _, _, _, hl, _, _ => by simp at hl
/-- They read as before. -/
theorem shut_args (hl : laidOutB P = true) : ∀ {ts : List TypeId} {vs : List Value} {ds : List (DataW Hh)} {ps : List MemPlace} {W' : World}, (ts.all fun t => P.readableRec t && decide (t < P.types.size)) = true → Below w.heap.size w W' →
    DataW.TrodAll enc P w 0 (fun _ => true) true ts vs ds ps → ∃ ps', DataW.TrodAll enc P W' 0 (fun b => decide (b < w.heap.size)) true ts vs ds ps'
  | [], vs, ds, ps, W', _, _, h => by
    obtain ⟨rfl, rfl, rfl⟩ := trodAll_nil h
    exact ⟨[], trodAll_mk0⟩
  | t :: ts, vs, ds, ps, W', hr, hb, h => by
    obtain ⟨v, vs', d, ds', p, q, rfl, rfl, rfl, h1, h2⟩ := trodAll_cons h
    simp only [List.all_cons, Bool.and_eq_true, decide_eq_true_eq] at hr
    obtain ⟨q', h3⟩ := shut_args hl hr.2 hb h2
    have lt : ∀ x ∈ p, x.block < w.heap.size := by obtain ⟨m, hm⟩ := h1; exact DataW.trod_lt m _ _ _ hm
    exact ⟨_, trodAll_cons_mk (Below.trod hl hr.1.1 hr.1.2 h1 hb lt) h3⟩
theorem out_bool {v : V} {b : Bool} (h : v.out = .bool b) : v = .bool b := by
  unfold V.out at h
  cases v <;> simp only [V.cl] at h
  case bool => exact h
  case ptr id off => rw [if_neg (by omega)] at h; cases h
  case rs id off n sz => rw [if_neg (by omega)] at h; cases h
  all_goals cases h
theorem out_true {H' : Heap} {r : V} (h : (frz H' r).out = .bool true) : r = .bool true := by
  have h := out_bool h
  cases r <;> simp only [frz, frz1] at h <;> first | exact h | (cases h; done) | skip
  split at h
  · split at h <;> cases h
  · cases h
/-! What rounds are checked by is nothing that the checker looks at. -/
section
variable (c : Nat → SCode → Code → Prop)
theorem chkX_chk : chkX { fm with chk := c } = chkX fm := rfl
theorem chkXs_chk : chkXs { fm with chk := c } = chkXs fm := by
  funext o
  induction o with
  | nil => funext x; cases x <;> simp only [chkXs]
  | cons a o ih => funext x; cases x <;> simp only [chkXs, chkX_chk, ih]
theorem chkXo_chk : chkXo { fm with chk := c } = chkXo fm := by
  funext o x
  cases o <;> cases x <;> simp only [chkXo, chkX_chk]
theorem chkParts_chk : chkParts { fm with chk := c } = chkParts fm := by
  funext pl o
  induction o with
  | nil => funext x; cases x <;> simp only [chkParts]
  | cons a o ih => funext x; cases x <;> simp only [chkParts, chkX_chk, ih]
theorem chk1_chk : chk1 P { fm with chk := c } = chk1 P fm := by
  funext o s
  unfold chk1
  simp only [chkX_chk, chkXs_chk, chkXo_chk, chkParts_chk]
theorem chkCall_chk : chkCall { fm with chk := c } = chkCall fm := by
  funext o s
  unfold chkCall
  simp only [chkX_chk, chkXs_chk]
theorem chkOper_chk : chkOper P { fm with chk := c } = chkOper P fm := by
  funext n ops o s
  unfold chkOper
  simp only [chk1_chk, chkCall_chk]
theorem chkOpers_chk : chkOpers P { fm with chk := c } = chkOpers P fm := by
  funext n ops os
  induction os with
  | nil => funext x; cases x <;> simp only [chkOpers]
  | cons a o ih => funext x; cases x <;> simp only [chkOpers, chkOper_chk, ih]
theorem chkC_chk (rd : Bool) (n : Nat) (s : SCode) (k : Code) : chkC P { fm with chk := c } rd n s k = chkC P fm rd n s k := by
  fun_induction chkC P fm rd n s k <;> simp_all [chkC, chkX_chk, chkOpers_chk]
theorem chkFn_chk (fid : FuncId) (fn : SFn) : chkFn P { fm with chk := c } fid fn = chkFn P fm fid fn := by
  unfold chkFn
  simp only [chkC_chk]
end
/-- A law that holds of canonical arguments: the model's run. -/
theorem law_calls (g : GOk (M0 fm) w) {G : Tbl} (hG : ∀ f fn, G f = some fn → chkFn P fm (fm f) fn = true) {f : Nat} {args : List V} (h : FP G f args (.bool true)) {vargs : List Value} (he : EncL (M0 fm) w args vargs) :
    Calls P (fm f) vargs.toArray w fun e w' => e = .returned (.bool true) ∧ Below w.heap.size w w' := by
  obtain ⟨r', H', hb, hr⟩ := h
  have hr := out_true hr
  subst hr
  obtain ⟨fm2, hfm2⟩ : ∃ fm2 : Fm, fm2 = { fm with chk := fun n s c => chkC P fm true n s c = true } := ⟨_, rfl⟩
  have hck : fm2.chk = fun n s c => chkC P fm2 true n s c = true := by
    subst hfm2
    funext n s c
    rw [chkC_chk]
  have hG2 : ∀ f fn, G f = some fn → chkFn P fm2 (fm2 f) fn = true := by subst hfm2; exact fun f fn h => (chkFn_chk _ _ _).trans (hG f fn h)
  have hfn : ∀ f, fm2 f = fm f := by subst hfm2; exact fun f => rfl
  have g2 : GOk (M0 fm2) w := by subst hfm2; exact fun g' cs h => Enc.free (M1 := M0 fm) (M2 := M0 { fm with chk := fun n s c => chkC P fm true n s c = true }) (fun _ => rfl) (fun _ _ rd => rd) (fun _ => rfl) (g g' cs h)
  have he2 : EncL (M0 fm2) w args vargs := EncL.free (M1 := M0 fm) (M2 := M0 fm2) (fun _ => rfl) (fun _ _ rd => rd) hfn he
  have := (sound hck hG2 hb).2 (M0 fm2) w vargs rfl (hrel0 fm2 w g2) he2
  rw [hfn] at this
  refine this.2.mono ?_
  rintro e w' ⟨rv, M', rfl, hrv, hs, _, _⟩
  simp only [Enc] at hrv
  subst hrv
  refine ⟨rfl, hs.os, hs.tape, hs.output, hs.size, fun k hk => hs.same k hk ?_⟩
  rintro ⟨id, hid⟩
  simp [blOf] at hid
end Go.Ev
/- Canonical data of some shapes, as lists of numbers. -/
namespace Go.Ev
open Go Go.RowKit
theorem u32_wf {n : Int} (h : (Lit.int .u32 n).wf = true) : 0 ≤ n ∧ n < 4294967296 := by
  simp [Lit.wf, IntKind.min, IntKind.max, IntKind.signed, IntKind.bits] at h
  omega
theorem zip_all {P : Program} {tys : List Ty} {ts : List TypeId} (h : (tys.zip ts).all (fun x => tyIs P x.2 x.1) = true) : ∀ (i : Nat) (ty : Ty) (t : TypeId), tys[i]? = some ty → ts[i]? = some t → tyIs P t ty = true := by
  intro i ty t h1 h2
  have hm : (ty, t) ∈ tys.zip ts := List.mem_of_getElem? (i := i) (by rw [List.getElem?_zip_eq_some]; exact ⟨h1, h2⟩)
  exact (List.all_eq_true.1 h) _ hm
end Go.Ev
/- Arguments of the statements about books. -/
namespace Go.Ev
open Go Go.RowKit
set_option linter.unusedSimpArgs false
set_option linter.unusedVariables false
theorem md_cells {cs : List V} (h : HasTy (.agg [.int .i64, .int .i64, .int .i64, .int .i64, .int .i64, .int .u32]) cs) : ∃ x : Md, cs = x.cs ∧ x.c < 4294967296 := by
  simp only [HasTy, HasTys] at h
  obtain ⟨a, _, rfl, ⟨n1, rfl, w1⟩, b, _, rfl, ⟨n2, rfl, w2⟩, c, _, rfl, ⟨n3, rfl, w3⟩, d, _, rfl, ⟨n4, rfl, w4⟩, e, _, rfl, ⟨n5, rfl, w5⟩, f, _, rfl, ⟨n6, rfl, w6⟩, rfl⟩ := h
  have w6 := u32_wf w6
  refine ⟨⟨n1, n2, n3, n4, n5, n6.toNat⟩, ?_, by simp only; omega⟩
  simp [Md.cs, Int.toNat_of_nonneg w6.1]
theorem mds_of : ∀ {es : List (List V)}, (∀ x ∈ es, HasTy (.agg [.int .i64, .int .i64, .int .i64, .int .i64, .int .i64, .int .u32]) x) → ∃ l : List Md, es = mds l ∧ ∀ a ∈ l, a.c < 4294967296
  | [], _ => ⟨[], rfl, by simp⟩
  | e :: es, h => by
    obtain ⟨l, rfl, hl⟩ := mds_of (es := es) fun x hx => h x (by simp [hx])
    obtain ⟨a, rfl, ha⟩ := md_cells (h e (by simp))
    exact ⟨a :: l, rfl, fun x hx => by rcases List.mem_cons.1 hx with rfl | hx; exact ha; exact hl x hx⟩
theorem md_arg {v : V} (h : ArgIs (.sl (.agg [.int .i64, .int .i64, .int .i64, .int .i64, .int .i64, .int .u32])) v) : ∃ l : List Md, v = .vs (mds l) .no ∧ l.length ≤ maxLen ∧ ∀ a ∈ l, a.c < 4294967296 := by
  simp only [ArgIs] at h
  obtain ⟨es, he0, hl, he⟩ := h
  obtain rfl : v = .vs es .no := by simpa using he0
  obtain ⟨l, rfl, hc⟩ := mds_of he
  exact ⟨l, rfl, by simpa using hl, hc⟩
end Go.Ev
