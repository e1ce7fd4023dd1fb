/- Words for plain data, and what simp needs of them. -/
import Derived.Test.YtdomogpjchpbnaaEvW
namespace Go.Ev
open Go Go.RowKit
set_option linter.unusedSimpArgs false
set_option linter.unusedVariables false

/-- A length. -/
def lenV (st : Bool) (v : V) (H : Heap) : Option (V × Heap) := match st, v with
    | false, .vs es _ => some (.int .i64 es.length, H)
    | false, .rs _ _ n _ => some (.int .i64 n, H)
    | true, .str s => some (.int .i64 s.length, H)
    | _, _ => none
theorem ev1_lenV (base : Nat) (e : Env) (H : Heap) (st : Bool) (x : X) : ev1 base e H (.len st x) = lenV st (x.ev e) H := rfl
def nileqV (k : Nat) (neg : Bool) (v : V) (H : Heap) : Option (V × Heap) := match k, v with
    | 0, .fn _ _ => some (.bool neg, H)
    | 0, .nilf => some (.bool !neg, H)
    | 1, .ptr _ _ => some (.bool neg, H)
    | 1, .cptr _ => some (.bool neg, H)
    | 1, .nilp => some (.bool !neg, H)
    | 2, .mp _ => some (.bool neg, H)
    | 2, .nilm => some (.bool !neg, H)
    | _, _ => none
theorem ev1_nileqV (base : Nat) (e : Env) (H : Heap) (k : Nat) (neg : Bool) (x : X) : ev1 base e H (.nileq k neg x) = nileqV k neg (x.ev e) H := rfl
theorem vs_pure_no (es : List (List V)) : (V.vs es .no).pure = true := rfl
theorem vs_pure_full (es : List (List V)) : (V.vs es .full).pure = true := rfl
attribute [simp] List.getElem?_cons_zero List.getElem?_cons_succ
attribute [simp] X.ev Ws ev1.eq_1 ev1.eq_2 ev1.eq_3 ev1.eq_4 ev1.eq_5 ev1.eq_6 ev1.eq_7 ev1.eq_8 ev1.eq_9 ev1.eq_10 ev1.eq_11 ev1.eq_12 ev1.eq_13 ev1.eq_14 ev1.eq_15 ev1.eq_16 ev1.eq_17 ev1.eq_18 ev1.eq_19 ev1_lenV lenV ev1.eq_24 ev1.eq_25 ev1.eq_26 ev1.eq_27 ev1.eq_28 ev1_nileqV nileqV ev1.eq_37 ev1.eq_39 ev1.eq_40 ev1.eq_41 ev1.eq_42 ev1.eq_43 ev1.eq_44 ev1.eq_45 ev1.eq_46 ev1.eq_47 ev1.eq_48 ev1.eq_49 ev1.eq_50 ev1.eq_51 ev1.eq_52 ev1.eq_53 ev1.eq_54 ev1.eq_55 ev1.eq_56 ev1.eq_57 loadAt V.ptrId? storeAt V.elems? eqks eqk keyEq mfind mmGo mmI bytesOf rowOf frzIt frzL V.cells? isFree mk evBin evUn giveIt evRes evRess resOf frz frz1 V.cl clL Tk.cl.eq_1 Tk.cl.eq_2 Tk.cl.eq_3 Blk.cl intOf? bounds fillC fillE V.pure.eq_1 V.pure.eq_2 V.pure.eq_3 V.pure.eq_4 V.pure.eq_5 V.pure.eq_6 V.pure.eq_7 V.pure.eq_8 vs_pure_no vs_pure_full V.pure.eq_10 V.nf1 V.nf2 V.nf V.out outL

/-- A slice of whole numbers. -/
def ints (k : IntKind) (l : List Int) : List (List V) := l.map fun x => [.int k x]
@[simp] theorem ints_length (k : IntKind) (l : List Int) : (ints k l).length = l.length := by simp [ints]
@[simp] theorem ints_get (k : IntKind) (l : List Int) (i : Nat) : (ints k l)[i]? = (l[i]?).map fun x => [.int k x] := by simp [ints]
@[simp] theorem ints_nil (k : IntKind) : ints k [] = [] := rfl
theorem ints_eq_nil (k : IntKind) (l : List Int) : ints k l = [] ↔ l = [] := by simp [ints]
theorem ints_append (k : IntKind) (l m : List Int) : ints k l ++ ints k m = ints k (l ++ m) := by simp [ints]
@[simp] theorem ints_snoc (k : IntKind) (l : List Int) (x : Int) : ints k l ++ [[.int k x]] = ints k (l ++ [x]) := by simp [ints]
theorem ints_drop (k : IntKind) (l : List Int) (n : Nat) : (ints k l).drop n = ints k (l.drop n) := by simp [ints]
theorem ints_take (k : IntKind) (l : List Int) (n : Nat) : (ints k l).take n = ints k (l.take n) := by simp [ints]
@[simp] theorem ints_sz (k : IntKind) (l : List Int) : (∀ f ∈ ints k l, f.length = 1) = True := by
  simp only [eq_iff_iff, iff_true]
  intro f hf
  simp only [ints, List.mem_map] at hf
  obtain ⟨x, _, rfl⟩ := hf
  rfl
/-- Cells that are whole numbers. -/
def cints (k : IntKind) (l : List Int) : List V := l.map fun x => .int k x
@[simp] theorem cints_length (k : IntKind) (l : List Int) : (cints k l).length = l.length := by simp [cints]
@[simp] theorem cints_cl (n : Nat) (k : IntKind) (l : List Int) : clL n (cints k l) = cints k l := by
  rw [clL_eq_map]; simp [cints, Function.comp_def]
theorem cints_drop (k : IntKind) (l : List Int) (n : Nat) : (cints k l).drop n = cints k (l.drop n) := by simp [cints]
theorem cints_take (k : IntKind) (l : List Int) (n : Nat) : (cints k l).take n = cints k (l.take n) := by simp [cints]
@[simp] theorem cints_pure (k : IntKind) (l : List Int) : (cints k l).all V.pure = true := by simp [cints]
theorem cints_chunks (k : IntKind) : ∀ l : List Int, chunks 1 l.length (cints k l) = ints k l
  | [] => rfl
  | x :: l => by
    have := cints_chunks k l
    simp only [cints, ints] at this
    simp [chunks, cints, ints, this]
theorem cints_get (k : IntKind) (l : List Int) (i : Nat) (h : i < l.length) : ((cints k l).drop i).take 1 = [.int k l[i]] := by
  rw [cints_drop, List.drop_eq_getElem_cons h]
  rfl
theorem cints_set (k : IntKind) (l : List Int) (i : Nat) (x : Int) (h : i < l.length) : (cints k l).take i ++ [.int k x] ++ (cints k l).drop (i + 1) = cints k (l.set i x) := by
  rw [cints_take, cints_drop, List.set_eq_take_append_cons_drop, if_pos h]
  simp [cints]

@[simp] theorem trunc_nil (n : Nat) : trunc n [] = [] := by simp [trunc]
theorem trunc_cons (n : Nat) (b : Option Blk) (H : Heap) : trunc (n + 1) (b :: H) = Option.map (Blk.cl (n + 1)) b :: (H.take n).map (Option.map (Blk.cl (n + 1))) := by simp [trunc]

/-- A slice of whole numbers from 0 on. -/
def nats (k : IntKind) (l : List Nat) : List (List V) := l.map fun (x : Nat) => [V.int k (x : Int)]
theorem nats_ints (k : IntKind) (l : List Nat) : nats k l = ints k (l.map Int.ofNat) := by simp [nats, ints, Function.comp_def]
@[simp] theorem nats_length (k : IntKind) (l : List Nat) : (nats k l).length = l.length := by simp [nats]
@[simp] theorem nats_get (k : IntKind) (l : List Nat) (i : Nat) : (nats k l)[i]? = (l[i]?).map fun (x : Nat) => [V.int k (x : Int)] := by simp [nats]
@[simp] theorem nats_getElem (k : IntKind) (l : List Nat) (i : Nat) (h : i < (nats k l).length) : (nats k l)[i] = [V.int k ((l[i]'(by simpa using h) : Nat) : Int)] := by simp [nats]
@[simp] theorem ints_getElem (k : IntKind) (l : List Int) (i : Nat) (h : i < (ints k l).length) : (ints k l)[i] = [V.int k (l[i]'(by simpa using h))] := by simp [ints]
@[simp] theorem nats_nil (k : IntKind) : nats k [] = [] := rfl
@[simp] theorem nats_snoc (k : IntKind) (l : List Nat) (x : Nat) : nats k l ++ [[.int k (x : Int)]] = nats k (l ++ [x]) := by simp [nats]
theorem nats_append (k : IntKind) (l m : List Nat) : nats k l ++ nats k m = nats k (l ++ m) := by simp [nats]
theorem nats_drop (k : IntKind) (l : List Nat) (n : Nat) : (nats k l).drop n = nats k (l.drop n) := by simp [nats]
theorem nats_take (k : IntKind) (l : List Nat) (n : Nat) : (nats k l).take n = nats k (l.take n) := by simp [nats]
@[simp] theorem nats_sz (k : IntKind) (l : List Nat) : (∀ f ∈ nats k l, f.length = 1) = True := by rw [nats_ints]; exact ints_sz k _
theorem nats_eq_nil (k : IntKind) (l : List Nat) : nats k l = [] ↔ l = [] := by simp [nats]

/-- Cells that are whole numbers from 0 on. -/
def cnats (k : IntKind) (l : List Nat) : List V := l.map fun (x : Nat) => .int k x
@[simp] theorem cnats_length (k : IntKind) (l : List Nat) : (cnats k l).length = l.length := by simp [cnats]
@[simp] theorem cnats_cl (n : Nat) (k : IntKind) (l : List Nat) : clL n (cnats k l) = cnats k l := by
  rw [clL_eq_map]; simp [cnats, Function.comp_def]
theorem cnats_get (k : IntKind) (l : List Nat) (i : Nat) (h : i < l.length) : ((cnats k l).drop i).take 1 = [.int k (l[i] : Nat)] := by
  rw [cnats, ← List.map_drop, List.drop_eq_getElem_cons h]
  rfl
theorem cnats_set (k : IntKind) (l : List Nat) (i x : Nat) (h : i < l.length) : (cnats k l).take i ++ (V.int k (x : Int) :: (cnats k l).drop (i + 1)) = cnats k (l.set i x) := by
  rw [cnats, ← List.map_drop, ← List.map_take, List.set_eq_take_append_cons_drop, if_pos h]
  simp [cnats]
@[simp] theorem cnats_pure (k : IntKind) (l : List Nat) : (cnats k l).all V.pure = true := by simp [cnats]
@[simp] theorem cnats_nf1 (k : IntKind) (l : List Nat) : (cnats k l).map V.nf1 = cnats k l := by simp [cnats, Function.comp_def]
theorem cnats_rep (k : IntKind) (n x : Nat) : List.replicate n (V.int k (x : Int)) = cnats k (List.replicate n x) := by simp [cnats]
def zeros (n : Nat) : List Nat := List.replicate n 0
@[simp] theorem zeros_length (n : Nat) : (zeros n).length = n := by simp [zeros]
@[simp] theorem rep_zero (k : IntKind) (n : Nat) : rep n (V.int k 0) = cnats k (zeros n) := by simp [rep, cnats, zeros]
@[simp high] theorem ev1_mksl0 (base : Nat) (e : Env) (H : Heap) (s bytes : Nat) (k : IntKind) (n : X) : ev1 base e H (.mksl s bytes [.int k 0] n) = (match n.ev e with
    | .int _ m => if isFree H (base + s) = true ∧ 0 ≤ m ∧ m.toNat * bytes ≤ 140737488355328 then some (.rs (base + s) 0 m.toNat 1, H.set (base + s) (some (.cells (cnats k (zeros m.toNat))))) else none
    | _ => none) := by
  have h : ∀ m : Nat, (List.replicate m [V.int k 0]).flatten = cnats k (zeros m) := fun m => by
    induction m with
    | zero => rfl
    | succ m ih => rw [List.replicate_succ, List.flatten_cons, ih]; simp [cnats, zeros, List.replicate_succ]
  rw [ev1.eq_27]
  cases n.ev e <;> simp only [h, List.length_singleton]
theorem take_full {k : IntKind} {l : List Nat} {n : Nat} (h : l.length = n) : (cnats k l).take n = cnats k l := by rw [List.take_of_length_le]; simp [h]
@[simp] theorem take_zeros (k : IntKind) (n : Nat) : (cnats k (zeros n)).take n = cnats k (zeros n) := take_full (zeros_length n)
theorem drop_full {k : IntKind} {l : List Nat} {n : Nat} (h : l.length = n) : (cnats k l).drop n = [] := by rw [List.drop_eq_nil_of_le]; simp [h]
@[simp] theorem drop_zeros (k : IntKind) (n : Nat) : (cnats k (zeros n)).drop n = [] := drop_full (zeros_length n)
theorem cnats_chunks (k : IntKind) : ∀ l : List Nat, chunks 1 l.length (cnats k l) = l.map fun (x : Nat) => [V.int k (x : Int)]
  | [] => rfl
  | x :: l => by
    have := cnats_chunks k l
    simp only [cnats] at this
    simp [chunks, cnats, this]

theorem ofInt_nat (w n : Nat) : BitVec.ofInt w (n : Int) = BitVec.ofNat w n := by simp
theorem wrap_nat64 {n : Nat} (h : n < 2 ^ 63) : IntKind.i64.wrap (n : Int) = n := by
  refine IntWalk.i64_in _ ⟨by omega, ?_⟩
  have : n < 9223372036854775808 := h
  omega
theorem wrap_nat32 {n : Nat} (h : n < 2 ^ 32) : IntKind.u32.wrap (n : Int) = n := by
  refine IntWalk.u32_in _ ⟨by omega, ?_⟩
  have : n < 4294967296 := h
  omega
theorem xor64 {a b : Nat} (ha : a < 2 ^ 63) (hb : b < 2 ^ 63) : xorI .i64 (a : Int) (b : Int) = ((a ^^^ b : Nat) : Int) := by
  unfold xorI
  rw [ofInt_nat, ofInt_nat, BitVec.toNat_xor, BitVec.toNat_ofNat, BitVec.toNat_ofNat, Nat.mod_eq_of_lt (Nat.lt_trans ha (by decide)), Nat.mod_eq_of_lt (Nat.lt_trans hb (by decide))]
  exact wrap_nat64 (Nat.xor_lt_two_pow ha hb)
theorem and64 {a b : Nat} (ha : a < 2 ^ 63) (hb : b < 2 ^ 63) : andI .i64 (a : Int) (b : Int) = ((a &&& b : Nat) : Int) := by
  unfold andI
  rw [ofInt_nat, ofInt_nat, BitVec.toNat_and, BitVec.toNat_ofNat, BitVec.toNat_ofNat, Nat.mod_eq_of_lt (Nat.lt_trans ha (by decide)), Nat.mod_eq_of_lt (Nat.lt_trans hb (by decide))]
  exact wrap_nat64 (Nat.lt_of_le_of_lt Nat.and_le_left ha)
theorem or64 {a b : Nat} (ha : a < 2 ^ 63) (hb : b < 2 ^ 63) : orI .i64 (a : Int) (b : Int) = ((a ||| b : Nat) : Int) := by
  unfold orI
  rw [ofInt_nat, ofInt_nat, BitVec.toNat_or, BitVec.toNat_ofNat, BitVec.toNat_ofNat, Nat.mod_eq_of_lt (Nat.lt_trans ha (by decide)), Nat.mod_eq_of_lt (Nat.lt_trans hb (by decide))]
  exact wrap_nat64 (Nat.or_lt_two_pow ha hb)
theorem xor32 {a b : Nat} (ha : a < 2 ^ 32) (hb : b < 2 ^ 32) : xorI .u32 (a : Int) (b : Int) = ((a ^^^ b : Nat) : Int) := by
  unfold xorI
  rw [ofInt_nat, ofInt_nat, BitVec.toNat_xor, BitVec.toNat_ofNat, BitVec.toNat_ofNat]
  simp only [IntKind.bits]
  rw [Nat.mod_eq_of_lt ha, Nat.mod_eq_of_lt hb]
  exact wrap_nat32 (Nat.xor_lt_two_pow ha hb)
theorem and32 {a b : Nat} (ha : a < 2 ^ 32) (hb : b < 2 ^ 32) : andI .u32 (a : Int) (b : Int) = ((a &&& b : Nat) : Int) := by
  unfold andI
  rw [ofInt_nat, ofInt_nat, BitVec.toNat_and, BitVec.toNat_ofNat, BitVec.toNat_ofNat]
  simp only [IntKind.bits]
  rw [Nat.mod_eq_of_lt ha, Nat.mod_eq_of_lt hb]
  exact wrap_nat32 (Nat.lt_of_le_of_lt Nat.and_le_left ha)
theorem or32 {a b : Nat} (ha : a < 2 ^ 32) (hb : b < 2 ^ 32) : orI .u32 (a : Int) (b : Int) = ((a ||| b : Nat) : Int) := by
  unfold orI
  rw [ofInt_nat, ofInt_nat, BitVec.toNat_or, BitVec.toNat_ofNat, BitVec.toNat_ofNat]
  simp only [IntKind.bits]
  rw [Nat.mod_eq_of_lt ha, Nat.mod_eq_of_lt hb]
  exact wrap_nat32 (Nat.or_lt_two_pow ha hb)
theorem shl64 {a j : Nat} (h : a * 2 ^ j < 2 ^ 63) (hj : j ≤ 64) : shlI .i64 (a : Int) (j : Int) = ((a * 2 ^ j : Nat) : Int) := by
  unfold shlI
  have : min ((j : Int)).toNat IntKind.i64.bits = j := by simp only [Int.toNat_natCast, IntKind.bits]; omega
  rw [this]
  have := wrap_nat64 h
  rwa [Int.natCast_mul, Int.natCast_pow] at this ⊢
theorem shr64 {a j : Nat} (hj : j ≤ 64) : shrI .i64 (a : Int) (j : Int) = ((a / 2 ^ j : Nat) : Int) := by
  unfold shrI
  have : min ((j : Int)).toNat IntKind.i64.bits = j := by simp only [Int.toNat_natCast, IntKind.bits]; omega
  rw [this, Int.fdiv_eq_ediv_of_nonneg _ (by have : (0 : Int) < 2 ^ j := Int.pow_pos (by decide); omega), Int.natCast_ediv, Int.natCast_pow]
  rfl
theorem shr32 {a j : Nat} (hj : j ≤ 32) : shrI .u32 (a : Int) (j : Int) = ((a / 2 ^ j : Nat) : Int) := by
  unfold shrI
  have : min ((j : Int)).toNat IntKind.u32.bits = j := by simp only [Int.toNat_natCast, IntKind.bits]; omega
  rw [this, Int.fdiv_eq_ediv_of_nonneg _ (by have : (0 : Int) < 2 ^ j := Int.pow_pos (by decide); omega), Int.natCast_ediv, Int.natCast_pow]
  rfl
theorem addI64 {a b : Int} (h0 : -9223372036854775808 ≤ a + b) (h1 : a + b ≤ 9223372036854775807) : addI .i64 a b = a + b := IntWalk.i64_in _ ⟨h0, h1⟩
theorem subI64 {a b : Int} (h0 : -9223372036854775808 ≤ a - b) (h1 : a - b ≤ 9223372036854775807) : subI .i64 a b = a - b := IntWalk.i64_in _ ⟨h0, h1⟩
theorem mulI64 {a b : Int} (h0 : -9223372036854775808 ≤ a * b) (h1 : a * b ≤ 9223372036854775807) : mulI .i64 a b = a * b := IntWalk.i64_in _ ⟨h0, h1⟩
theorem add1 {n m : Nat} (h : n < m) (hm : m ≤ 9223372036854775807) : addI .i64 (n : Int) 1 = ((n + 1 : Nat) : Int) := by rw [addI64 (by omega) (by omega)]; omega

theorem i64_id {n : Int} (h0 : -9223372036854775808 ≤ n) (h1 : n ≤ 9223372036854775807) : IntKind.i64.wrap n = n := IntWalk.i64_in n ⟨h0, h1⟩
theorem u32_id {n : Int} (h0 : 0 ≤ n) (h1 : n ≤ 4294967295) : IntKind.u32.wrap n = n := IntWalk.u32_in n ⟨h0, h1⟩

end Go.Ev
