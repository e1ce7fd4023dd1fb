/- The words of a record, by hurdleref04. -/
import Derived.Test.YtdomogpjchpbnaaStepW
import Derived.Test.YtdomogpjchpbnaaCheckW
import Derived.Test.YtdomogpjchpbnaaLiveW
namespace Go.Ev
open Go Go.RowKit
variable {G : Tbl}
set_option maxRecDepth 10000
set_option maxHeartbeats 2000000
set_option linter.unusedSimpArgs false
set_option linter.unusedVariables false

theorem quoU64' {a b : Nat} (ha : a < 18446744073709551616) : quoI .u64 (a : Int) (b : Int) = ((a / b : Nat) : Int) := by
  have h : a / b ≤ a := Nat.div_le_self _ _
  unfold quoI
  have h2 : ((a : Int).tdiv (b : Int)) = ((a / b : Nat) : Int) := rfl
  rw [h2]
  exact IntWalk.u64_in _ ⟨Int.natCast_nonneg _, by rw [Int.ofNat_le.symm] at h; omega⟩
theorem convU8 {a : Nat} (ha : a < 256) : convI .u8 (a : Int) = (a : Int) := by
  unfold convI; exact IntWalk.u8_in _ ⟨by omega, by omega⟩
/-- The low bytes. -/
def lowL (v n : Nat) : List Nat := (List.range n).map fun j => v / 256 ^ j % 256
theorem lowL_succ (v n : Nat) : lowL v (n + 1) = lowL v n ++ [v / 256 ^ n % 256] := by simp [lowL, List.range_succ]
theorem lowL_len (v n : Nat) : (lowL v n).length = n := by simp [lowL]
/-- Blocks that hold nothing of what is made later. -/
def HShut (H : Heap) : Prop := ∀ m, H.length ≤ m → H.map (Option.map (Blk.cl m)) = H
theorem shut_trunc {H : Heap} (h : HShut H) (r : Heap) (n : Nat) : trunc (H.length + n) (H ++ r) = H ++ (r.take n).map (Option.map (Blk.cl (H.length + n))) := by
  unfold trunc
  rw [List.take_append, List.map_append]
  congr 1
  · rw [List.take_of_length_le (by omega)]; exact h _ (by omega)
  · congr 2; omega
theorem low_ok [HasR4 G] (v n : Nat) (hv : v < 18446744073709551616) (hn : n ≤ 8) {H : Heap} (hH : HShut H) : Big G (.F 182 [.int .u64 v, .int .i64 n] H (.vs (nats .u8 (lowL v n)) (.own H.length)) (H ++ [some (.zone n)])) := by
  refine F_of HasR4.h_hurdleref04_low (Nat.le_of_ble_eq_true rfl) ?_
  have ht := shut_trunc hH
  simp
  refine W_up n (fun i => [(0, .int .u64 (v / 256 ^ i : Nat)), (1, .int .i64 n), (5, .vs (nats .u8 (lowL v i)) (.own H.length)), (6, .int .i64 i)]) (fun i => H ++ [some (.zone i)]) (fun _ => True) ?_ ?_
  · simp [keep_cl, lowL, ht]
  intro i hi _
  by_cases hlt : i < n
  · have hd : v / 256 ^ i < 18446744073709551616 := Nat.lt_of_le_of_lt (Nat.div_le_self _ _) hv
    have hr : remI ((v / 256 ^ i : Nat) : Int) 256 = ((v / 256 ^ i % 256 : Nat) : Int) := rem64 (b := 256)
    have hq : quoI .u64 ((v / 256 ^ i : Nat) : Int) 256 = ((v / 256 ^ (i + 1) : Nat) : Int) := by
      rw [Nat.pow_succ, ← Nat.div_div_eq_div_mul]; exact quoU64' (b := 256) hd
    have hc : convI .u8 ((v / 256 ^ i % 256 : Nat) : Int) = ((v / 256 ^ i % 256 : Nat) : Int) := convU8 (Nat.mod_lt _ (by decide))
    have hll := lowL_len v i
    have hls := lowL_succ v i
    simp (disch := omega) [ltT, hr, hq, hc, hll, hls, leTn, add1', hlt, keep_cl, ht, List.getElem?_append_right, List.set_append_right, -Int.natCast_add, -Int.natCast_ediv, -Int.natCast_emod, -Int.natCast_pow]
  · have hne : i = n := by omega
    subst hne
    simp [-Int.natCast_ediv]
theorem low_P [HasR4 G] (v n : Nat) (hv : v < 18446744073709551616) (hn : n ≤ 8) : FP G 182 [.int .u64 v, .int .i64 n] (.vs (nats .u8 (lowL v n)) .no) :=
  ⟨_, _, low_ok v n hv hn (H := []) (fun _ _ => rfl), by simp⟩
def num : List Nat → Nat
  | [] => 0
  | b :: l => b + 256 * num l
theorem num_lt : ∀ l : List Nat, (∀ b ∈ l, b < 256) → num l < 256 ^ l.length
  | [], _ => by decide
  | b :: l, h => by
    have h1 := num_lt l fun c hc => h c (by simp [hc])
    have h2 := h b (by simp)
    rw [num, List.length_cons, Nat.pow_succ]; omega
theorem number_ok [HasR4 G] (l : List Nat) (hl : l.length ≤ 7) (hb : ∀ b ∈ l, b < 256) : FP G 183 [.vs (nats .u8 l) .no] (.int .u64 (num l : Nat)) := by
  refine FP_of HasR4.h_hurdleref04_number (Nat.le_of_ble_eq_true rfl) ?_
  have s1 : subI .i64 (l.length : Int) 1 = (l.length : Int) - 1 := by rw [subI64] <;> omega
  simp [s1]
  refine W_up l.length (fun i => [(0, .vs (nats .u8 l) .no), (3, .int .u64 (num (l.drop (l.length - i)) : Nat)), (4, .int .i64 ((l.length : Int) - 1 - i))]) (fun _ => []) (fun _ => True) ?_ ?_
  · simp [keep_cl, trunc, num]
  intro i hi _
  by_cases hlt : i < l.length
  · have ht : ∃ t, t = l.length - 1 - i := ⟨_, rfl⟩
    obtain ⟨t, ht⟩ := ht
    have e1 : (l.length : Int) - 1 - i = (t : Int) := by omega
    have e2 : l.length - i = t + 1 := by omega
    have e3 : l.length - (i + 1) = t := by omega
    have htl : t < l.length := by omega
    have hg : l[t]? = some l[t] := List.getElem?_eq_getElem htl
    have hbt := hb l[t] (List.getElem_mem htl)
    have hdr := List.drop_eq_getElem_cons htl
    have h1 := num_lt (l.drop (t + 1)) fun c hc => hb c (List.mem_of_mem_drop hc)
    have h2 : 256 ^ (l.drop (t + 1)).length ≤ 256 ^ 6 := Nat.pow_le_pow_right (by decide) (by rw [List.length_drop]; omega)
    have h2' : (256 : Nat) ^ 6 = 281474976710656 := by decide
    have hs : subI .i64 (t : Int) 1 = (l.length : Int) - 1 - ((i + 1 : Nat) : Int) := by rw [subI64] <;> omega
    generalize l[t] = b at hg hbt hdr
    have hn : num (l.drop t) = b + 256 * num (l.drop (t + 1)) := by rw [hdr]; rfl
    obtain ⟨q, hqq⟩ : ∃ q, q = num (l.drop (t + 1)) := ⟨_, rfl⟩
    rw [← hqq] at h1 hn
    have hm : mulI .u64 (q : Int) 256 = ((q * 256 : Nat) : Int) := by unfold mulI; rw [show (q : Int) * 256 = ((q * 256 : Nat) : Int) by omega]; exact IntWalk.u64_in _ ⟨by omega, by omega⟩
    have ha : addI .u64 ((q * 256 : Nat) : Int) (b : Int) = ((num (l.drop t) : Nat) : Int) := by unfold addI; rw [hn, show ((q * 256 : Nat) : Int) + (b : Int) = ((b + 256 * q : Nat) : Int) by omega]; exact IntWalk.u64_in _ ⟨by omega, by omega⟩
    have hc : convI .u64 (b : Int) = (b : Int) := convU64 b (by omega)
    obtain ⟨_, hgv⟩ := List.getElem?_eq_some_iff.1 hg
    rw [e2, ← hqq]
    simp (disch := omega) [e1, e3, leT, hg, hgv, hc, hm, ha, hs, hlt, keep_cl, trunc, -Int.natCast_add, -Int.natCast_mul]
  · have hne : i = l.length := by omega
    subst hne
    have hF : ((l.length : Int) ≤ (l.length : Int) - 1) = False := eq_false (by omega)
    simp [hF]

/-- The bytes of a record. -/
def bytesD (d : Da) (n : Nat) : List Nat := lowL d.nr 4 ++ lowL d.arch 4 ++ lowL d.ip 8 ++ (d.args.take n).flatMap fun a => lowL a 8
theorem low8 (v : Nat) : lowL v 8 = lowL (lo v) 4 ++ lowL (hi v) 4 := by
  simp only [lowL, List.range_succ, List.range_zero, List.nil_append, List.map_append, List.map_cons, List.map_nil, List.cons_append, lo, hi]
  simp only [Nat.reducePow, List.cons.injEq, and_true]
  and_intros <;> omega
theorem low_num (v : Nat) (h : v < 4294967296) : num (lowL v 4) = v := by
  simp only [lowL, List.range_succ, List.range_zero, List.nil_append, List.map_append, List.map_cons, List.map_nil, List.cons_append, num]
  omega
theorem low_lt (v n : Nat) : ∀ b ∈ lowL v n, b < 256 := by
  intro b hb
  simp only [lowL, List.mem_map] at hb
  obtain ⟨j, _, rfl⟩ := hb
  exact Nat.mod_lt _ (by decide)
theorem bytes_len (d : Da) (n : Nat) : (bytesD d n).length = 16 + 8 * (d.args.take n).length := by
  have : ∀ l : List Nat, (l.flatMap fun a => lowL a 8).length = 8 * l.length := by
    intro l
    induction l with
    | nil => rfl
    | cons a l ih => rw [List.flatMap_cons, List.length_append, ih, lowL_len, List.length_cons]; omega
  simp only [bytesD, List.length_append, lowL_len, this]
theorem bytes_words (d : Da) (h1 : d.nr < 4294967296) (h2 : d.arch < 4294967296) (h6 : d.args.length = 6) : bytesD d 6 = ((wordsD d).map fun w => lowL w 4).flatten := by
  have h : ∀ l : List Nat, (l.flatMap fun a => lowL a 8) = ((l.flatMap fun a => [lo a, hi a]).map fun w => lowL w 4).flatten := by
    intro l
    induction l with
    | nil => rfl
    | cons a l ih => simp only [List.flatMap_cons, List.map_append, List.flatten_append, ih, ← low8]; simp [low8, ih]
  rw [bytesD, List.take_of_length_le (by omega), h, low8]
  simp [wordsD]
theorem Bytes_ok [HasR4 G] (d : Da) (hd : d.ok) : FP G 184 [DV d] (.vs (nats .u8 (bytesD d 6)) .no) := by
  refine FP_of HasR4.h_hurdleref04_Bytes (Nat.le_of_ble_eq_true rfl) ?_
  obtain ⟨d1, d2, d3, d4, d5⟩ := hd
  have ht6 := take_full (k := .u64) d4
  have c1 := convU64 d.nr (by omega)
  have c2 := convU64 d.arch (by omega)
  have n1 : ∀ v n : Nat, n ≠ 0 → (nats .u8 (lowL v n) = []) = False := fun v n h => eq_false (by rw [nats_eq_nil]; intro h2; have := lowL_len v n; rw [h2] at this; exact h this.symm)
  simp [DV, Da.cs, c1, c2, d4, ht6]
  refine callK_of (low_ok d.nr 4 (by omega) (by decide) (by intro m _; simp)) (by simp) ?_
  simp [c2]
  refine callP_of (low_P d.arch 4 (by omega) (by decide)) ?_
  simp [lowL_len, n1]
  refine callP_of (low_P d.ip 8 d3 (by decide)) ?_
  simp [lowL_len, n1, nats_append]
  refine W_up 6 (fun i => [(1, .ptr 0 0), (3, .vs (nats .u8 (bytesD d i)) (.own 2)), (4, .int .i64 i)])
    (fun i => [some (.cells (.int .u32 (d.nr : Int) :: .int .u32 (d.arch : Int) :: .int .u64 (d.ip : Int) :: cnats .u64 d.args)), none, some (.zone (16 + 8 * i)), none]) (fun _ => True) ?_ ?_
  · simp [keep_cl, trunc, bytesD]
  intro i hi _
  by_cases hlt : i < 6
  · have hg : d.args[i]? = some d.args[i] := List.getElem?_eq_getElem (by omega)
    have hv := d5 _ (List.getElem_mem (show i < d.args.length by omega))
    have hc := cnats_get .u64 d.args i (by omega)
    have hb := bytes_len d i
    have hbs : bytesD d (i + 1) = bytesD d i ++ lowL d.args[i] 8 := by
      unfold bytesD
      rw [List.take_add_one, hg, Option.toList_some, List.flatMap_append, ← List.append_assoc]; simp
    have htl : (d.args.take i).length = i := by rw [List.length_take]; omega
    rw [htl] at hb
    have drop3 : ∀ (a b c : V) (l : List V) (n : Nat), (a :: b :: c :: l).drop (3 + n) = l.drop n := fun a b c l n => by rw [Nat.add_comm]; rfl
    generalize d.args[i] = w at hg hv hc hbs
    simp (disch := omega) [ltT, leTn, drop3, hc, d4, -Int.natCast_add]
    refine callP_of (low_P w 8 hv (by decide)) ?_
    simp (disch := omega) [lowL_len, n1, nats_append, hb, ← hbs, leTn, add1', hlt, keep_cl, trunc, -Int.natCast_add]
    omega
  · have hne : i = 6 := by omega
    subst hne
    simp

theorem bytes_at {d : Da} (hd : d.ok) {j : Nat} (h : j < 16) : (((bytesD d 6).drop (4 * j)).take 4) = lowL ((wordsD d).getD j 0) 4 := by
  rw [bytes_words d hd.1 hd.2.1 hd.2.2.2.1, Nat.mul_comm]
  have hl := wordsD_len hd.2.2.2.1
  refine flat_at (fun w => lowL w 4) 4 (fun w => lowL_len w 4) (wordsD d) j _ ?_
  rw [List.getD, List.getElem?_eq_getElem (show j < (wordsD d).length by omega)]; rfl
theorem WordR_ok [HasR4 G] (d : Da) (n : Nat) (hd : d.ok) (hn : n < 4294967296) : FP G 185 [DV d, .int .u32 n] (.tup [.int .u32 ((wordS d n).1 : Nat), .bool (wordS d n).2]) := by
  refine FP_of HasR4.h_hurdleref04_Word (Nat.le_of_ble_eq_true rfl) ?_
  have hB := Bytes_ok (G := G) d hd
  have hd' := hd
  obtain ⟨d1, d2, d3, d4, d5⟩ := hd
  have ht6 := take_full (k := .u64) d4
  have r4 : remI (n : Int) 4 = ((n % 4 : Nat) : Int) := rem64 (b := 4)
  have hz : (((n % 4 : Nat) : Int) == 0) = decide (n % 4 = 0) := by rw [Bool.eq_iff_iff]; simp [-Int.natCast_emod]
  have hzn : (((n % 4 : Nat) : Int) != 0) = decide (n % 4 ≠ 0) := by rw [Bool.eq_iff_iff]; simp [-Int.natCast_emod]
  have hc := convI64 n hn
  simp [DV, Da.cs] at hB ⊢
  by_cases h4 : n % 4 = 0
  · by_cases h64 : n < 64
    · have hlt : ((64 : Int) ≤ (n : Int)) = False := leF (by omega)
      have hj : 4 * (n / 4) = n := by omega
      have hat := bytes_at hd' (show n / 4 < 16 by omega)
      rw [hj] at hat
      have hlen := bytes_len d 6
      rw [List.take_of_length_le (by omega), d4] at hlen
      have hw : wordS d n = ((wordsD d).getD (n / 4) 0, true) := by simp [wordS, h4, h64]
      have hlt2 := wordS_lt hd' n
      rw [hw] at hlt2 ⊢
      simp only at hlt2
      have hnum := low_num _ hlt2
      have hno := number_ok (G := G) (lowL ((wordsD d).getD (n / 4) 0) 4) (by rw [lowL_len]; decide) (low_lt _ _)
      have ha4 : addI .i64 (n : Int) 4 = ((n + 4 : Nat) : Int) := by rw [addI64] <;> omega
      simp only at hnum hno ⊢
      generalize (wordsD d).getD (n / 4) 0 = w at hat hnum hno hlt2
      have hcv : convI .u32 (w : Int) = (w : Int) := by unfold convI; exact wrap_nat32 hlt2
      simp [r4, hzn, h4, hlt, hc, ht6, d4, -Int.natCast_emod]
      refine callP_of hB ?_
      have hb2 : 0 ≤ (n : Int) ∧ n ≤ n + 4 ∧ n + 4 ≤ (bytesD d 6).length := by omega
      have hF : (((n + 4 : Nat) : Int) ≤ 64) = True := eq_true (by omega)
      simp (disch := omega) [ha4, hlen, hF, leTn, nats_drop, nats_take, hat, -Int.natCast_add]
      refine callP_of hno ?_
      simp [hnum, hcv]
    · have hlt : ((64 : Int) ≤ (n : Int)) = True := leT (by omega)
      have hw : wordS d n = (0, false) := by simp [wordS, h64]
      rw [hw]
      simp [r4, hzn, h4, hlt, -Int.natCast_emod]
  · have hw : wordS d n = (0, false) := by simp [wordS, h4]
    rw [hw]
    simp [r4, hzn, h4, -Int.natCast_emod]
end Go.Ev

/- What an instruction makes of a state, by hurdleref06. -/
namespace Go.Ev
open Go Go.RowKit
variable {G : Tbl}
set_option maxRecDepth 10000
set_option maxHeartbeats 2000000
set_option linter.unusedSimpArgs false
set_option linter.unusedVariables false

theorem NegR_ok [HasR1n G] (a : Nat) (ha : a < 4294967296) : FP G 173 [.int .u32 a] (.int .u32 (negW a : Nat)) := by
  refine FP_of HasR1n.h_hurdleref01_Neg (Nat.le_of_ble_eq_true rfl) ?_
  have c1 := convU64 a (by omega)
  have s1 : subI .u64 4294967296 (a : Int) = ((4294967296 - a : Nat) : Int) := by unfold subI; rw [show (4294967296 : Int) - (a : Int) = ((4294967296 - a : Nat) : Int) by omega]; exact IntWalk.u64_in _ ⟨by omega, by omega⟩
  have r1 : remI ((4294967296 - a : Nat) : Int) 4294967296 = ((negW a : Nat) : Int) := rem64 (b := 4294967296)
  have c2 : convI .u32 ((negW a : Nat) : Int) = ((negW a : Nat) : Int) := by unfold convI; exact wrap_nat32 (Nat.mod_lt _ (by decide))
  simp [c1, s1, r1, c2]

/-- The state while its cells are looked through. -/
def stAt (s : St) (x : In4) (i : Nat) : St := if x.k < i ∧ x.k < 16 then (if x.op = 2 then { s with m := s.m.set x.k s.a } else if x.op = 3 then { s with m := s.m.set x.k s.x } else s) else s
def valAt (s : St) (x : In4) (i : Nat) : Nat := if x.k < i ∧ x.k < 16 then s.m.getD x.k 0 else 0

theorem Step6_ok [HasR2 G] [hR1 : HasR1 G] [HasR1n G] [HasR4 G] [HasR6s G] (s : St) (x : In4) (d : Da) (hs : s.ok) (hk : x.k < 4294967296) (hd : d.ok) :
    FP G 190 [SV s, IV x, DV d] (.tup [SV (stepS s x d).1, .bool (stepS s x d).2]) := by
  refine FP_of HasR6s.h_hurdleref06_Step (Nat.le_of_ble_eq_true rfl) ?_
  have hl := hs.2.2.1
  have ht := take_full (k := .u32) hl
  have h6 := hd.2.2.2.1
  have ht6 := take_full (k := .u64) h6
  have ha := AluR_ok (G := G) x
  have hD := DoR_ok hR1 (aluT x.op).1 s.a (aluB s x) hs.1 (aluB_lt hs hk)
  have hW := WordR_ok (G := G) d x.k hd hk
  have hN := NegR_ok (G := G) s.a hs.1
  simp [SV, IV, DV, In4.cs, St.cs, Da.cs] at ha hW ⊢
  refine callP_of ha ?_
  cases hal : (aluT x.op).2.2
  case true =>
    have hst : stepS s x d = (if (aluR s x).2 then { s with a := (aluR s x).1 } else s, (aluR s x).2) := by simp [stepS, hal]
    cases hx : (aluT x.op).2.1
    · have : aluB s x = x.k := by simp [aluB, hx]
      rw [this] at hD
      simp [hx]
      refine callP_of hD ?_
      cases hg : (doW (aluT x.op).1 s.a x.k).2 <;> simp [hg, hst, aluR, this, hl, ht]
    · have : aluB s x = s.x := by simp [aluB, hx]
      rw [this] at hD
      simp [hx]
      refine callP_of hD ?_
      cases hg : (doW (aluT x.op).1 s.a s.x).2 <;> simp [hg, hst, aluR, this, hl, ht]
  simp
  refine W_up 16 (fun i => [(3, .ptr 0 0), (4, .ptr 1 0), (5, .ptr 2 0), (6, .ptr 3 0), (14, .int .u32 (valAt s x i : Nat)), (15, .int .i64 i)])
    (fun i => [some (.cells (stAt s x i).cs), some (.cells x.cs), some (.cells d.cs), some (.cells (cnats .u32 (zeros 18)))]) (fun _ => True) ?_ ?_
  · simp [keep_cl, trunc, stAt, valAt, St.cs, In4.cs, Da.cs]
  intro i hi _
  have hsl : (stAt s x i).m.length = 16 := by unfold stAt; split <;> (try split) <;> (try split) <;> simp [hl]
  by_cases hlt : i < 16
  · have hcv : convI .u32 (i : Int) = (i : Int) := by unfold convI; exact wrap_nat32 (by omega)
    have i3 : (2 + i + 1 ≤ 16 + 1 + 1) = True := leTn (by omega)
    by_cases hik : i = x.k
    · have hk16 : x.k < 16 := by omega
      have he : ((i : Int) == (x.k : Int)) = true := by simp [hik]
      have hst0 : stAt s x i = s := by unfold stAt; rw [if_neg (by omega)]
      have hval : valAt s x (i + 1) = s.m[i]'(by omega) := by
        unfold valAt; rw [if_pos (by omega), ← hik, List.getD, List.getElem?_eq_getElem (by omega)]; rfl
      have c := cnats_get .u32 s.m i (by omega)
      have cs1 := cnats_set .u32 s.m i s.a (by omega)
      have cs2 := cnats_set .u32 s.m i s.x (by omega)
      rw [hst0]
      by_cases h2 : x.op = 2
      · have hst1 : stAt s x (i + 1) = { s with m := s.m.set i s.a } := by unfold stAt; rw [if_pos (by omega), if_pos h2, hik]
        simp (disch := omega) [ltT, hcv, he, St.cs, In4.cs, Da.cs, h2, hlt, hl, drop2, drop1, drop21, take2, c, cs1, i3, leTn, hval, hst1, add1', keep_cl, trunc, show 2 + i ≤ 17 from by omega, -Int.natCast_add]
      · have n2 : (x.op == 2) = false := beqF h2
        by_cases h3 : x.op = 3
        · have hst1 : stAt s x (i + 1) = { s with m := s.m.set i s.x } := by unfold stAt; rw [if_pos (by omega), if_neg h2, if_pos h3, hik]
          simp (disch := omega) [ltT, hcv, he, St.cs, In4.cs, Da.cs, h3, hlt, hl, drop2, drop1, drop21, take2, c, cs2, i3, leTn, hval, hst1, add1', keep_cl, trunc, show 2 + i ≤ 17 from by omega, -Int.natCast_add]
        · have n3 : (x.op == 3) = false := beqF h3
          have hst1 : stAt s x (i + 1) = s := by unfold stAt; rw [if_pos (by omega), if_neg h2, if_neg h3]
          simp (disch := omega) [ltT, hcv, he, St.cs, In4.cs, Da.cs, n2, n3, hlt, hl, drop2, drop1, drop21, take2, c, i3, leTn, hval, hst1, add1', keep_cl, trunc, show 2 + i ≤ 17 from by omega, -Int.natCast_add]
    · have he : ((i : Int) == (x.k : Int)) = false := beqF (by omega)
      have hst1 : stAt s x (i + 1) = stAt s x i := by
        unfold stAt
        by_cases h : x.k < i ∧ x.k < 16
        · rw [if_pos h, if_pos (by omega)]
        · rw [if_neg h, if_neg (by omega)]
      have hval : valAt s x (i + 1) = valAt s x i := by
        unfold valAt
        by_cases h : x.k < i ∧ x.k < 16
        · rw [if_pos h, if_pos (by omega)]
        · rw [if_neg h, if_neg (by omega)]
      simp (disch := omega) [ltT, hcv, he, St.cs, In4.cs, Da.cs, hlt, hst1, hval, add1', keep_cl, trunc, -Int.natCast_add]
  · have hne : i = 16 := by omega
    subst hne
    have hst : stepS s x d = (stepO s x d, true) := by simp [stepS, hal]
    rw [hst]
    have hv : valAt s x 16 = cellS s x.k := by
      unfold valAt cellS
      by_cases h : x.k < 16
      · rw [if_pos ⟨h, h⟩, if_pos h]
      · rw [if_neg (by omega), if_neg h]
    have h2 : x.op = 2 → stAt s x 16 = stepO s x d := by
      intro h
      simp only [stAt, stepO, storeS, h]
      by_cases hk : x.k < 16 <;> simp [hk]
    have h3 : x.op = 3 → stAt s x 16 = stepO s x d := by
      intro h
      simp only [stAt, stepO, storeS, h]
      by_cases hk : x.k < 16 <;> simp [hk]
    have h0 : x.op ≠ 2 → x.op ≠ 3 → stAt s x 16 = s := by
      intro a b
      unfold stAt
      simp [a, b]
    have hsl2 := take_full (k := .u32) hsl
    rw [hv]
    simp only [St.cs, In4.cs, Da.cs]
    by_cases e5 : x.op = 2
    · rw [h2 e5] at hsl hsl2 ⊢
      simp [e5, beqF, hsl, hsl2, -Int.natCast_add]
    by_cases e6 : x.op = 3
    · rw [h3 e6] at hsl hsl2 ⊢
      simp [e6, beqF, hsl, hsl2, -Int.natCast_add]
    rw [h0 e5 e6]
    clear h0 h2 h3 hsl hsl2
    by_cases e0 : x.op = 0
    · simp [e0, stepO, hl, ht]
    by_cases e1 : x.op = 1
    · simp [e1, beqF, stepO, hl, ht]
    by_cases e2 : x.op = 32
    · simp [e2, beqF, stepO, h6, ht6]
      refine callP_of hW ?_
      simp [hl, ht]
    by_cases e3 : x.op = 96
    · simp [e3, beqF, stepO, hl, ht]
    by_cases e4 : x.op = 97
    · simp [e4, beqF, stepO, hl, ht]
    by_cases e7 : x.op = 7
    · simp [e7, beqF, stepO, hl, ht]
    by_cases e8 : x.op = 135
    · simp [e8, beqF, stepO, hl, ht]
    by_cases e9 : x.op = 132
    · simp [e9, beqF, stepO]
      refine callP_of hN ?_
      simp [hl, ht]
    simp [e0, e1, e2, e3, e4, e5, e6, e7, e8, e9, beqF, stepO, hl, ht]
end Go.Ev

/- Runs, by hurdleref06; and the law LiveRuns. -/
namespace Go.Ev
open Go Go.RowKit
variable {G : Tbl}
set_option maxRecDepth 10000
set_option maxHeartbeats 2000000
set_option linter.unusedSimpArgs false
set_option linter.unusedVariables false

/-- Over how many instructions is gone, from a state. -/
def goes (s : St) (x : In4) : Nat := if x.op = 5 then x.k else if isBr x.op then (if takesB s x then x.jt.toNat else x.jf.toNat) else 0
/-- What comes of a run, and of how many instructions. -/
def run (d : Da) (g : List In4) (s : St) : Nat × Nat :=
  match g with
  | [] => (0, 0)
  | x :: g => if x.op = 6 then (x.k, 1) else if x.op = 22 then (s.a, 1) else if (stepS s x d).2 then ((run d (g.drop (goes s x)) (stepS s x d).1).1, (run d (g.drop (goes s x)) (stepS s x d).1).2 + 1) else (0, 1)
termination_by g.length
decreasing_by all_goals (simp only [List.length_drop, List.length_cons]; omega)
theorem run_cons (d : Da) (x : In4) (g : List In4) (s : St) : run d (x :: g) s = if x.op = 6 then (x.k, 1) else if x.op = 22 then (s.a, 1) else if (stepS s x d).2 then ((run d (g.drop (goes s x)) (stepS s x d).1).1, (run d (g.drop (goes s x)) (stepS s x d).1).2 + 1) else (0, 1) := by
  rw [run]
theorem goes_offs {x : In4} (h : isEnd x.op = false) (s : St) : goes s x ∈ offs x := by
  unfold goes offs
  rw [h]
  simp only [Bool.false_eq_true, if_false]
  by_cases h5 : x.op = 5
  · simp [h5]
  · rw [if_neg h5, if_neg h5]
    split
    · split <;> simp
    · simp
theorem run_le (d : Da) : ∀ (n : Nat) (g : List In4) (s : St), g.length ≤ n → (run d g s).2 ≤ g.length
  | _, [], s, _ => by rw [run]; simp
  | 0, x :: g, s, h => by simp at h
  | n + 1, x :: g, s, h => by
    rw [run_cons]
    have := run_le d n (g.drop (goes s x)) (stepS s x d).1 (by simp at h ⊢; omega)
    rw [List.length_drop] at this
    rw [List.length_cons]
    split
    · simp
    split
    · simp
    split
    · simp only; omega
    · simp
theorem run_lt (d : Da) (hd : d.ok) : ∀ (n : Nat) (g : List In4) (s : St), g.length ≤ n → s.ok → (∀ x ∈ g, x.k < 4294967296) → (run d g s).1 < 4294967296
  | _, [], s, _, _, _ => by rw [run]; decide
  | 0, x :: g, s, h, _, _ => by simp at h
  | n + 1, x :: g, s, h, hs, hk => by
    rw [run_cons]
    have h1 := hk x (by simp)
    have := run_lt d hd n (g.drop (goes s x)) (stepS s x d).1 (by simp at h ⊢; omega) (stepS_ok' hs h1 hd) (fun y hy => hk y (by simp [List.mem_of_mem_drop hy]))
    split
    · exact h1
    split
    · exact hs.1
    split
    · exact this
    · decide

theorem takes_agree {s t : St} {x : In4} (h : ∀ i, i < 18 → usesP x i = true → part s i = part t i) : takesB s x = takesB t x := by
  cases hb : isBr x.op
  · rw [takes_none hb, takes_none hb]
  · have h0 := h 0 (by decide) (by simp [usesP, hb])
    by_cases hx : x.op ∈ [29, 45, 61, 77]
    · have h1 := h 1 (by decide) (by simp only [usesP, byXB, hx]; simp)
      simp only [part] at h0 h1
      simp only [takesB, h0, h1]
    · simp only [part] at h0
      simp only [takesB, h0, hx, if_false]
/-- States that are alike in what is needed run alike. -/
theorem run_agree (d : Da) (hd : d.ok) : ∀ (n : Nat) (g : List In4) (s t : St), g.length ≤ n → s.ok → t.ok → (∀ x ∈ g, x.k < 4294967296) → (∀ p, p < 18 → nd g p = true → part s p = part t p) → run d g s = run d g t
  | _, [], s, t, _, _, _, _, _ => by rw [run, run]
  | 0, x :: g, s, t, h, _, _, _, _ => by simp at h
  | n + 1, x :: g, s, t, h, hs, ht, hk, hp => by
    have h1 := hk x (by simp)
    have hu : ∀ i, i < 18 → usesP x i = true → part s i = part t i := fun i hi hu => hp i hi (by rw [nd_cons, hu]; rfl)
    obtain ⟨e1, e2⟩ := stepS_uses s t x d hs.2.2.1 ht.2.2.1 hu
    rw [run_cons, run_cons]
    by_cases h6 : x.op = 6
    · rw [if_pos h6, if_pos h6]
    rw [if_neg h6, if_neg h6]
    by_cases h22 : x.op = 22
    · rw [if_pos h22, if_pos h22]
      have := hu 0 (by decide) (by simp [usesP, h22])
      simp only [part] at this
      rw [this]
    rw [if_neg h22, if_neg h22]
    have he : isEnd x.op = false := by simp [isEnd, h6, h22]
    have hg : goes s x = goes t x := by unfold goes; rw [takes_agree hu]
    have ho := goes_offs he t
    have hrc := run_agree d hd n (g.drop (goes t x)) (stepS s x d).1 (stepS t x d).1 (by simp at h ⊢; omega) (stepS_ok' hs h1 hd) (stepS_ok' ht h1 hd) (fun y hy => hk y (by simp [List.mem_of_mem_drop hy])) fun p hp18 hn => by
      cases hse : setsP x p
      · rw [stepS_frame s x d hs.2.2.1 p hp18 hse, stepS_frame t x d ht.2.2.1 p hp18 hse]
        refine hp p hp18 ?_
        rw [nd_cons, hse]
        have : (offs x).any (fun o => nd (g.drop o) p) = true := List.any_eq_true.2 ⟨_, ho, hn⟩
        rw [this]; simp
      · exact e2 p hp18 hse
    rw [hg, e1, hrc]

theorem From_ok [HasR2 G] [hR1 : HasR1 G] [HasR1n G] [HasR4 G] [HasR6s G] [HasR6 G] (f : List In4) (d : Da) (hk : ∀ x ∈ f, x.k < 4294967296) (hs : soundF f = true) (hd : d.ok) :
    ∀ (n t : Nat) (s : St), f.length - t ≤ n → t < f.length → s.ok → FP G 192 [FL f, SV s, .int .i64 t, DV d] (.tup [.int .u32 ((run d (f.drop t) s).1 : Nat), .int .i64 ((run d (f.drop t) s).2 : Nat)])
  | 0, t, s, h, ht, _ => by omega
  | n + 1, t, s, h, ht, hso => by
    refine FP_of HasR6.h_hurdleref06_From (Nat.le_of_ble_eq_true rfl) ?_
    have hg : f[t]? = some f[t] := List.getElem?_eq_getElem ht
    have hgg := FL_get ht
    have hxm : f[t] ∈ f := List.getElem_mem ht
    have hdr := List.drop_eq_getElem_cons ht
    obtain ⟨x, hfx⟩ : ∃ x, x = f[t] := ⟨_, rfl⟩
    rw [← hfx] at hg hgg hxm hdr
    have hfx := hfx.symm
    have hkk := hk x hxm
    obtain ⟨o1, o2, hlen⟩ := sound_at hs hg
    have hbo := sound_br hs hg
    have hcs : x.cs = [.int .i64 x.op, .int .i64 x.jt, .int .i64 x.jf, .int .u32 (x.k : Int)] := rfl
    have hbr := BranchR_ok (G := G) x
    have hta := TakesR_ok (G := G) s x hso hkk
    have hst := Step6_ok (G := G) s x d hso hkk hd
    have hl := hso.2.2.1
    have htk := take_full (k := .u32) hl
    have h6 := hd.2.2.2.1
    have ht6 := take_full (k := .u64) h6
    have a1 : addI .i64 (t : Int) 1 = ((t + 1 : Nat) : Int) := add1' (by omega)
    have hc := convI64 x.k hkk
    have hso2 := stepS_ok' hso hkk hd
    have hl2 := hso2.2.2.1
    have htk2 := take_full (k := .u32) hl2
    rw [hdr, run_cons]
    simp [SV, IV, DV, FL, hcs, St.cs, Da.cs] at hbr hta hst ⊢
    by_cases e6 : x.op = 6
    · simp (disch := omega) [ltT, hgg, hfx, hcs, e6]
    have b6 : (x.op == 6) = false := beqF e6
    by_cases e22 : x.op = 22
    · simp (disch := omega) [ltT, hgg, hfx, hcs, b6, e6, e22]
    have b22 : (x.op == 22) = false := beqF e22
    have he : isEnd x.op = false := by simp [isEnd, e6, e22]
    have hgo := sound_offs hs hg (goes_offs he s)
    have hrec := From_ok f d hk hs hd n (t + 1 + goes s x) (stepS s x d).1 (by omega) hgo hso2
    have hrl := run_le d _ (f.drop (t + 1 + goes s x)) (stepS s x d).1 (Nat.le_refl _)
    rw [List.length_drop] at hrl
    simp [SV, IV, DV, FL, hcs, St.cs, Da.cs, -Int.natCast_add] at hrec
    rw [show f.drop (t + 1 + goes s x) = (f.drop (t + 1)).drop (goes s x) by rw [List.drop_drop]] at hrec hrl
    have a2 : addI .i64 ((run d ((f.drop (t + 1)).drop (goes s x)) (stepS s x d).1).2 : Int) 1 = (((run d ((f.drop (t + 1)).drop (goes s x)) (stepS s x d).1).2 + 1 : Nat) : Int) := add1' (by omega)
    simp (disch := omega) [ltT, hgg, hfx, hcs, b6, b22, e6, e22, a1, -Int.natCast_add]
    have c1 : ∀ n : Nat, (V.int .u32 (n : Int)).cl 0 = .int .u32 n := fun _ => rfl
    by_cases h5 : x.op = 5
    · have b5 : (x.op == 5) = true := by simp [h5]
      have hnb : isBr x.op = false := by rw [h5]; decide
      have hgg5 : goes s x = x.k := by simp [goes, h5]
      have a3 : addI .i64 ((t + 1 : Nat) : Int) (x.k : Int) = ((t + 1 + x.k : Nat) : Int) := addN (by omega)
      rw [hnb] at hbr
      rw [hgg5] at hrec a2 ⊢
      simp (disch := omega) [b5, hc, a3, -Int.natCast_add]
      refine callP_of hbr ?_
      simp (disch := omega) [hl, htk, h6, ht6, -Int.natCast_add]
      refine callP_of hst ?_
      cases hok : (stepS s x d).2
      · simp [hl2, htk2]
      · simp (disch := omega) [hl2, htk2, h6, ht6, -Int.natCast_add]
        refine callP_of hrec ?_
        rw [List.drop_drop] at a2
        simp [a2, -Int.natCast_add]
    have b5 : (x.op == 5) = false := beqF h5
    simp (disch := omega) [b5, -Int.natCast_add]
    refine callP_of hbr ?_
    cases hb : isBr x.op
    · have hgg5 : goes s x = 0 := by simp [goes, h5, hb]
      rw [hgg5] at hrec a2 ⊢
      simp (disch := omega) [hl, htk, h6, ht6, -Int.natCast_add]
      refine callP_of hst ?_
      cases hok : (stepS s x d).2
      · simp [hl2, htk2]
      · simp (disch := omega) [hl2, htk2, h6, ht6, -Int.natCast_add]
        refine callP_of hrec ?_
        simp at a2 ⊢
        simp [a2]
    obtain ⟨b1, b2, b3, b4⟩ := hbo hb
    simp (disch := omega) [hl, htk, -Int.natCast_add]
    refine callP_of hta ?_
    cases htb : takesB s x
    · have hgg5 : goes s x = x.jf.toNat := by simp [goes, h5, hb, htb]
      have a3 : addI .i64 ((t + 1 : Nat) : Int) x.jf = ((t + 1 + x.jf.toNat : Nat) : Int) := by rw [addI64] <;> omega
      rw [hgg5] at hrec a2 ⊢
      simp (disch := omega) [hl, htk, h6, ht6, a3, -Int.natCast_add]
      refine callP_of hst ?_
      cases hok : (stepS s x d).2
      · simp [hl2, htk2]
      · simp (disch := omega) [hl2, htk2, h6, ht6, -Int.natCast_add]
        refine callP_of hrec ?_
        rw [List.drop_drop] at a2
        simp [a2, -Int.natCast_add]
    · have hgg5 : goes s x = x.jt.toNat := by simp [goes, h5, hb, htb]
      have a3 : addI .i64 ((t + 1 : Nat) : Int) x.jt = ((t + 1 + x.jt.toNat : Nat) : Int) := by rw [addI64] <;> omega
      rw [hgg5] at hrec a2 ⊢
      simp (disch := omega) [hl, htk, h6, ht6, a3, -Int.natCast_add]
      refine callP_of hst ?_
      cases hok : (stepS s x d).2
      · simp [hl2, htk2]
      · simp (disch := omega) [hl2, htk2, h6, ht6, -Int.natCast_add]
        refine callP_of hrec ?_
        rw [List.drop_drop] at a2
        simp [a2, -Int.natCast_add]

theorem wd_bit (g : List In4) (p : Nat) (hp : p < 18) : (wd g).testBit p = nd g p := by
  rw [wd, wordOf_bit]; simp [hp]
/-- LIVERUNS. -/
theorem LiveRuns_ok [HasIns G] [HasCheck G] [HasTells G] [HasLive G] [HasR2 G] [hR1 : HasR1 G] [HasR1n G] [HasR4 G] [HasR5 G] [HasR6s G] [HasR6 G] [HasR7m G] [HasL7 G] (hkn : FP G 216 [] (.bool true))
    (f : List In4) (a : Int) (s t : St) (d : Da) (hf : f.length ≤ maxLen) (hk : ∀ x ∈ f, x.k < 4294967296) (hs : s.ok) (ht : t.ok) (hd : d.ok) : FP G 219 [FL f, .int .i64 a, SV s, SV t, DV d] (.bool true) := by
  refine FP_of HasL7.h_hurdlelaw07_LiveRuns (Nat.le_of_ble_eq_true rfl) ?_
  have hl := hs.2.2.1
  have htk := take_full (k := .u32) hl
  have hl2 := ht.2.2.1
  have htk2 := take_full (k := .u32) hl2
  have h6 := hd.2.2.2.1
  have ht6 := take_full (k := .u64) h6
  by_cases hb : f.length > 300
  · have h1 : ((300 : Int) < (f.length : Int)) = True := eq_true (by omega)
    simp [FL, SV, DV, St.cs, Da.cs, h1]
    refine callP_of hkn ?_
    simp
  have h1 : ((300 : Int) < (f.length : Int)) = False := eq_false (by omega)
  by_cases h0 : a < 0
  · simp [FL, SV, DV, St.cs, Da.cs, h1, h0]
    refine callP_of hkn ?_
    simp
  by_cases h2 : (f.length : Int) ≤ a
  · simp [FL, SV, DV, St.cs, Da.cs, h1, h0, h2]
    refine callP_of hkn ?_
    simp
  obtain ⟨i, rfl⟩ := Int.eq_ofNat_of_zero_le (show 0 ≤ a by omega)
  have hi : i < f.length := by omega
  have hF0 : ((i : Int) < 0) = False := eq_false h0
  have hF1 : ((f.length : Int) ≤ (i : Int)) = False := eq_false h2
  have hso := SoundR_ok (G := G) f hf hk
  simp [FL] at hso
  cases hsf : soundF f
  · rw [hsf] at hso
    simp [FL, SV, DV, St.cs, Da.cs, h1, hF0, hF1]
    refine callP_of hso ?_
    simp
    refine callP_of hkn ?_
    simp
  rw [hsf] at hso
  have hat := At_ok (G := G) f hk hsf
  have hnl := needs_length f
  have hng := needs_get f i hi
  obtain ⟨hbl, hngv⟩ := List.getElem?_eq_some_iff.1 hng
  have hm := Mix_ok (G := G) (wd (f.drop i)) s t (wd_lt _) hl hl2
  have hmo := mix_ok (mask := wd (f.drop i)) hs ht
  have f1 := From_ok (G := G) f d hk hsf hd _ i s (Nat.le_refl _) hi hs
  have f2 := From_ok (G := G) f d hk hsf hd _ i (mixS (wd (f.drop i)) s t) (Nat.le_refl _) hi hmo
  have hag := run_agree d hd _ (f.drop i) (mixS (wd (f.drop i)) s t) s (Nat.le_refl _) hmo hs (fun x hx => hk x (List.mem_of_mem_drop hx)) fun p hp hn => by
    rw [part_mix _ _ _ _ hp, wd_bit _ _ hp, hn]; rfl
  rw [hag] at f2
  have hl3 := hmo.2.2.1
  have htk3 := take_full (k := .u32) hl3
  simp [SV, DV, FL, St.cs, Da.cs] at hat hm f1 f2
  simp [FL, SV, DV, St.cs, Da.cs, h1, hF0, hF1]
  refine callP_of hso ?_
  simp
  refine callP_of hat ?_
  have hF2 : ((f.length : Int) ≤ (i : Int)) = False := hF1
  simp [hnl, hF2, hl, htk, h6, ht6]
  refine callP_of f1 ?_
  simp (disch := omega) [hng, hngv, hnl, ltT, hl, htk, hl2, htk2, h6, ht6]
  refine callP_of hm ?_
  simp (disch := omega) [hng, hngv, hnl, ltT, hl, htk, hl2, htk2, h6, ht6]
  refine callP_of f2 ?_
  simp
  refine callP_of hkn ?_
  simp
end Go.Ev
