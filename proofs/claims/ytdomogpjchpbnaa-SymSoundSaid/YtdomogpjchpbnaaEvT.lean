/- Counting loops, and small words. -/
import Derived.Test.YtdomogpjchpbnaaEvS
namespace Go.Ev
open Go Go.RowKit
set_option linter.unusedVariables false
set_option linter.unusedSimpArgs false
variable {G : Tbl} {K : List Kt} {e : Env} {H : Heap} {Q : Ex → Env → Heap → Prop}

/-- What a round of a loop that counts up must come to. -/
def QU (G : Tbl) (K : List Kt) (Q : Ex → Env → Heap → Prop) (l : List Nat) (k N : Nat) (E : Nat → List (Nat × V)) (B : Nat → Heap) (P : Nat → Prop) (n : Nat) (x : Ex) (e1 : Env) (H1 : Heap) : Prop :=
  match x with
  | .nx => n < N ∧ P (n + 1) ∧ (keepE l e1).cl k = mkE (E (n + 1)) ∧ trunc k H1 = B (n + 1)
  | x => Wr G x K e1 H1 Q
section
variable {l : List Nat} {k N : Nat} {E : Nat → List (Nat × V)} {B : Nat → Heap} {P : Nat → Prop} {n : Nat}
@[simp] theorem QU_nx : QU G K Q l k N E B P n .nx e H = (n < N ∧ P (n + 1) ∧ (keepE l e).cl k = mkE (E (n + 1)) ∧ trunc k H = B (n + 1)) := rfl
@[simp] theorem QU_exit (i : Nat) : QU G K Q l k N E B P n (.exit i) e H = Wr G (.exit i) K e H Q := rfl
@[simp] theorem QU_ret : QU G K Q l k N E B P n .ret e H = Wr G .ret K e H Q := rfl
end
/-- A loop that counts up: what is alive, and the blocks, at each head. -/
theorem W_up {l : List Nat} {c : SCode} (N : Nat) (E : Nat → List (Nat × V)) (B : Nat → Heap) (P : Nat → Prop)
    (h0 : P 0 ∧ (keepE l e).cl H.length = mkE (E 0) ∧ trunc H.length H = B 0)
    (hr : ∀ n, n ≤ N → P n → W G c [] (mkE (E n)) (B n) (QU G K Q l H.length N E B P n)) : W G (.loop l c) K e H Q := by
  refine W_loop (fun k e H => ∃ n, n ≤ N ∧ k = N - n ∧ P n ∧ e = mkE (E n) ∧ H = B n) N ⟨0, by omega, by omega, h0.1, h0.2.1, h0.2.2⟩ ?_
  rintro k e' H' ⟨n, hn, rfl, hp, rfl, rfl⟩
  obtain ⟨x, e1, H1, hb, hq⟩ := hr n hn hp
  refine ⟨x, e1, H1, hb, ?_⟩
  cases x with
  | nx => obtain ⟨h1, h2, h3, h4⟩ := hq; exact ⟨N - (n + 1), by omega, n + 1, h1, rfl, h2, h3, h4⟩
  | exit id => exact hq
  | ret => exact hq

/-- The next head of a loop. -/
def Nx {S : Type} (m : S → Nat) (E : S → List (Nat × V)) (B : S → Heap) (P : S → Prop) (l : List Nat) (k : Nat) (s : S) (e1 : Env) (H1 : Heap) : Prop :=
  ∃ s', m s' < m s ∧ P s' ∧ (keepE l e1).cl k = mkE (E s') ∧ trunc k H1 = B s'
def QS {S : Type} (G : Tbl) (K : List Kt) (Q : Ex → Env → Heap → Prop) (l : List Nat) (k : Nat) (m : S → Nat) (E : S → List (Nat × V)) (B : S → Heap) (P : S → Prop) (s : S) (x : Ex) (e1 : Env) (H1 : Heap) : Prop :=
  match x with
  | .nx => Nx m E B P l k s e1 H1
  | x => Wr G x K e1 H1 Q
section
variable {l : List Nat} {k : Nat} {S : Type} {m : S → Nat} {E : S → List (Nat × V)} {B : S → Heap} {P : S → Prop} {s : S}
@[simp] theorem QS_nx : QS G K Q l k m E B P s .nx e H = Nx m E B P l k s e H := rfl
@[simp] theorem QS_exit (i : Nat) : QS G K Q l k m E B P s (.exit i) e H = Wr G (.exit i) K e H Q := rfl
@[simp] theorem QS_ret : QS G K Q l k m E B P s .ret e H = Wr G .ret K e H Q := rfl
end
/-- Any loop: a state for each head. -/
theorem W_state {l : List Nat} {c : SCode} {S : Type} (m : S → Nat) (E : S → List (Nat × V)) (B : S → Heap) (P : S → Prop) (s0 : S)
    (h0 : P s0 ∧ (keepE l e).cl H.length = mkE (E s0) ∧ trunc H.length H = B s0)
    (hr : ∀ s, P s → W G c [] (mkE (E s)) (B s) (QS G K Q l H.length m E B P s)) : W G (.loop l c) K e H Q := by
  refine W_loop (fun k e H => ∃ s, k = m s ∧ P s ∧ e = mkE (E s) ∧ H = B s) (m s0) ⟨s0, rfl, h0.1, h0.2.1, h0.2.2⟩ ?_
  rintro k e' H' ⟨s, rfl, hp, rfl, rfl⟩
  obtain ⟨x, e1, H1, hb, hq⟩ := hr s hp
  refine ⟨x, e1, H1, hb, ?_⟩
  cases x with
  | nx => obtain ⟨s', h1, h2, h3, h4⟩ := hq; exact ⟨m s', h1, s', rfl, h2, h3, h4⟩
  | exit id => exact hq
  | ret => exact hq

/-- A function that answers a value of which something holds. -/
theorem FPx_of {f nt : Nat} {body : SCode} {res : List ResV} {args : List V} {R : V → Prop} (hg : G f = some ⟨nt, body, res⟩) (hl : args.length ≤ nt)
    (h : W G body [] (mkE (idxE 0 args)) [] (QF res R)) : ∃ r, FP G f args r ∧ R r := by
  obtain ⟨x, e1, H1, hb, hx, vs, hv, hr⟩ := h
  exact ⟨_, FP_of hg hl ⟨x, e1, H1, hb, hx, vs, hv, rfl⟩, hr⟩
theorem sub1 {n : Nat} (h : 0 < n) (hm : n ≤ 9223372036854775807) : subI .i64 (n : Int) 1 = ((n - 1 : Nat) : Int) := by rw [subI64 (by omega) (by omega)]; omega
theorem shl1 {j : Nat} (h : j < 63) : shlI .i64 1 (j : Int) = ((2 ^ j : Nat) : Int) := by
  have hp : 2 ^ j < 2 ^ 63 := Nat.pow_lt_pow_right (by decide) h
  have := shl64 (a := 1) (j := j) (by omega) (by omega)
  simpa using this
theorem addN {a b : Nat} (h : a + b ≤ 9223372036854775807) : addI .i64 (a : Int) (b : Int) = ((a + b : Nat) : Int) := by rw [addI64 (by omega) (by omega)]; omega
theorem ints_cons (k : IntKind) (x : Int) (l : List Int) : ints k (x :: l) = [.int k x] :: ints k l := rfl
theorem nats_cons (k : IntKind) (x : Nat) (l : List Nat) : nats k (x :: l) = [.int k (x : Int)] :: nats k l := rfl

/-! Comparisons that omega decides: for simp with (disch := omega). -/
theorem ltT {a b : Int} (h : a < b) : (a < b) = True := eq_true h
theorem ltF {a b : Int} (h : ¬ a < b) : (a < b) = False := eq_false h
theorem leT {a b : Int} (h : a ≤ b) : (a ≤ b) = True := eq_true h
theorem leF {a b : Int} (h : ¬ a ≤ b) : (a ≤ b) = False := eq_false h
theorem eqT {a b : Int} (h : a = b) : (a = b) = True := eq_true h
theorem eqF {a b : Int} (h : ¬ a = b) : (a = b) = False := eq_false h
theorem addL {a n : Nat} (h : a + n ≤ 9223372036854775807) : addI .i64 (a : Int) (@OfNat.ofNat Int (no_index n) instOfNat) = ((a + n : Nat) : Int) := by
  have h1 : (@OfNat.ofNat Int n instOfNat : Int) = (n : Int) := rfl
  rw [h1, addI64] <;> omega
theorem add1' {a : Nat} (h : a + 1 ≤ 9223372036854775807) : addI .i64 (a : Int) 1 = ((a + 1 : Nat) : Int) := by rw [addI64] <;> omega
theorem addN1 {a : Nat} (h : a + 1 ≤ 9223372036854775807) : addI .i64 (a : Int) 1 = ((a + 1 : Nat) : Int) := add1' h
theorem sub1' {a : Nat} (h : 0 < a ∧ a ≤ 9223372036854775807) : subI .i64 (a : Int) 1 = ((a - 1 : Nat) : Int) := by rw [subI64] <;> omega
@[simp] theorem natInj {a b : Nat} : ((a : Int) = (b : Int)) = (a = b) := propext Int.ofNat_inj
theorem shl32 {a j : Nat} (hj : j ≤ 32) : shlI .u32 (a : Int) (j : Int) = ((a * 2 ^ j % 4294967296 : Nat) : Int) := by
  unfold shlI
  have : min ((j : Int)).toNat IntKind.u32.bits = j := by simp only [Int.toNat_natCast, IntKind.bits]; omega
  rw [this]
  show (((a : Int) * 2 ^ j) % 4294967296 : Int) = _
  rw [Int.natCast_emod, Int.natCast_mul, Int.natCast_pow]
  rfl
theorem quo32 {a b : Nat} (ha : a < 4294967296) (hb : b ≠ 0) : quoI .u32 (a : Int) (b : Int) = ((a / b : Nat) : Int) := by
  unfold quoI
  rw [Int.tdiv_eq_ediv_of_nonneg (by omega)]
  have h : ((a : Int) / (b : Int)) = ((a / b : Nat) : Int) := by rw [Int.natCast_ediv]
  rw [h]
  exact wrap_nat32 (Nat.lt_of_le_of_lt (Nat.div_le_self a b) ha)
theorem quo64 {a b : Nat} (ha : a < 9223372036854775808) : quoI .i64 (a : Int) (b : Int) = ((a / b : Nat) : Int) := by
  unfold quoI
  rw [Int.tdiv_eq_ediv_of_nonneg (by omega)]
  have h : ((a : Int) / (b : Int)) = ((a / b : Nat) : Int) := by rw [Int.natCast_ediv]
  rw [h]
  exact wrap_nat64 (Nat.lt_of_le_of_lt (Nat.div_le_self a b) ha)
theorem rem64 {a b : Nat} : remI (a : Int) (b : Int) = ((a % b : Nat) : Int) := by
  unfold remI
  rw [Int.tmod_eq_emod_of_nonneg (by omega), Int.natCast_emod]
theorem and31 {b : Nat} (hb : b < 4294967296) : andI .u32 (b : Int) 31 = ((b % 32 : Nat) : Int) := by
  have := and32 (a := b) (b := 31) hb (by decide)
  rw [show ((31 : Nat) : Int) = 31 from rfl] at this
  rw [this, show (31 : Nat) = 2 ^ 5 - 1 from rfl, Nat.and_two_pow_sub_one_eq_mod]
@[simp] theorem ints_take_len (k : IntKind) (l : List Int) : (ints k l).take l.length = ints k l := by rw [List.take_of_length_le]; simp
@[simp] theorem nats_take_len (k : IntKind) (l : List Nat) : (nats k l).take l.length = nats k l := by rw [List.take_of_length_le]; simp
theorem ints_tail (k : IntKind) (l : List Int) : (ints k l).tail = ints k l.tail := by cases l <;> rfl
theorem nats_tail (k : IntKind) (l : List Nat) : (nats k l).tail = nats k l.tail := by cases l <;> rfl
theorem eqTn {a b : Nat} (h : a = b) : (a = b) = True := eq_true h
theorem eqFn {a b : Nat} (h : ¬ a = b) : (a = b) = False := eq_false h
theorem ltTn {a b : Nat} (h : a < b) : (a < b) = True := eq_true h
theorem ltFn {a b : Nat} (h : ¬ a < b) : (a < b) = False := eq_false h
theorem bneT {a b : Int} (h : ¬ a = b) : (a != b) = true := by simp [h]
theorem bneF {a b : Int} (h : a = b) : (a != b) = false := by simp [h]
theorem beqT {a b : Int} (h : a = b) : (a == b) = true := by simp [h]
theorem beqF {a b : Int} (h : ¬ a = b) : (a == b) = false := by simp [h]
theorem leTn {a b : Nat} (h : a ≤ b) : (a ≤ b) = True := eq_true h
theorem leFn {a b : Nat} (h : ¬ a ≤ b) : (a ≤ b) = False := eq_false h
theorem beqI (a b : Int) : (a == b) = decide (a = b) := by rw [Bool.eq_iff_iff]; simp
theorem get_in {α : Type} {l : List α} {i : Nat} (h : i < l.length) : l[i]? = some l[i] := List.getElem?_eq_getElem h
end Go.Ev
