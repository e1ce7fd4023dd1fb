/- What is needed at each place: live.nexts, live.At, live.Behind. -/
import Derived.Test.YtdomogpjchpbnaaCheckW
import Derived.Test.YtdomogpjchpbnaaLiveB
namespace Go.Ev
open Go Go.RowKit
variable {G : Tbl}
set_option maxRecDepth 10000
set_option maxHeartbeats 2000000
set_option linter.unusedSimpArgs false
set_option linter.unusedVariables false

/-- Over how many instructions one goes. -/
def offs (x : In4) : List Nat := if isEnd x.op then [] else if x.op = 5 then [x.k] else if isBr x.op then [x.jt.toNat, x.jf.toNat] else [0]
/-- Is a part needed, at each place? -/
def ndL (p : Nat) : List In4 → List Bool
  | [] => []
  | x :: f => (usesP x p || ((offs x).any (fun o => (ndL p f).getD o false) && !setsP x p)) :: ndL p f
def nd (f : List In4) (p : Nat) : Bool := (ndL p f).headD false
theorem ndL_length (p : Nat) : ∀ f : List In4, (ndL p f).length = f.length
  | [] => rfl
  | x :: f => by simp [ndL, ndL_length p f]
theorem ndL_drop (p : Nat) : ∀ (f : List In4) (i : Nat), ndL p (f.drop i) = (ndL p f).drop i
  | f, 0 => rfl
  | [], i + 1 => by simp [ndL]
  | x :: f, i + 1 => by simp only [List.drop_succ_cons, ndL]; exact ndL_drop p f i
theorem nd_get (p : Nat) (f : List In4) (o : Nat) : (ndL p f).getD o false = nd (f.drop o) p := by
  unfold nd
  rw [ndL_drop, List.headD_eq_head?_getD, List.head?_drop]; rfl
theorem nd_cons (x : In4) (f : List In4) (p : Nat) : nd (x :: f) p = (usesP x p || ((offs x).any (fun o => nd (f.drop o) p) && !setsP x p)) := by
  simp only [nd, ndL, List.headD_cons]
  congr 2
  congr 1
  funext o
  exact nd_get p f o
/-- What is needed, as words. -/
def wd (f : List In4) : Nat := wordOf (nd f) 18
def needs : List In4 → List Nat
  | [] => []
  | x :: f => wd (x :: f) :: needs f
theorem needs_length : ∀ f : List In4, (needs f).length = f.length
  | [] => rfl
  | x :: f => by simp [needs, needs_length f]
theorem needs_get : ∀ (f : List In4) (i : Nat), i < f.length → (needs f)[i]? = some (wd (f.drop i))
  | x :: f, 0, _ => rfl
  | x :: f, i + 1, h => by
    simp only [needs, List.getElem?_cons_succ, List.drop_succ_cons]
    exact needs_get f i (by simpa using h)
/-- What is needed behind an instruction, of its first so many ways. -/
def bh (g : List In4) (os : List Nat) (p : Nat) : Bool := os.any fun o => nd (g.drop o) p
theorem word_or (a b : Nat → Bool) : ∀ n, wordOf a n ||| wordOf b n = wordOf (fun p => a p || b p) n := by
  intro n
  refine Nat.eq_of_testBit_eq fun i => ?_
  rw [Nat.testBit_or, wordOf_bit, wordOf_bit, wordOf_bit]
  cases decide (i < n) <;> simp
theorem word_false : ∀ n, wordOf (fun _ => false) n = 0
  | 0 => rfl
  | n + 1 => by simp [wordOf, word_false n]
theorem bh_snoc (g : List In4) (os : List Nat) (o : Nat) : wordOf (bh g os) 18 ||| wd (g.drop o) = wordOf (bh g (os ++ [o])) 18 := by
  rw [wd, word_or]
  congr 1
  funext p
  simp [bh]
theorem wd_cons (x : In4) (g : List In4) : wordOf (fun p => usesP x p || (bh g (offs x) p && !setsP x p)) 18 = wd (x :: g) := by
  unfold wd
  congr 1
  funext p
  rw [nd_cons]; rfl
theorem word_andn (a b : Nat → Bool) (n : Nat) (hn : n ≤ 32) : andnI .u32 ((wordOf a n : Nat) : Int) ((wordOf b n : Nat) : Int) = ((wordOf (fun p => a p && !b p) n : Nat) : Int) := by
  have ha : wordOf a n < 2 ^ 32 := Nat.lt_of_lt_of_le (wordOf_lt a n) (Nat.pow_le_pow_right (by decide) hn)
  have hb : wordOf b n < 2 ^ 32 := Nat.lt_of_lt_of_le (wordOf_lt b n) (Nat.pow_le_pow_right (by decide) hn)
  unfold andnI
  rw [ofInt_nat, ofInt_nat]
  have : (BitVec.ofNat 32 (wordOf a n) &&& ~~~BitVec.ofNat 32 (wordOf b n)).toNat = wordOf (fun p => a p && !b p) n := by
    refine Nat.eq_of_testBit_eq fun i => ?_
    rw [BitVec.testBit_toNat, BitVec.getLsbD_and, BitVec.getLsbD_not, BitVec.getLsbD_ofNat, BitVec.getLsbD_ofNat, wordOf_bit, wordOf_bit, wordOf_bit]
    by_cases hi : i < n
    · have : i < 32 := by omega
      simp [hi, this]
    · simp [hi]
  show IntKind.u32.wrap _ = _
  rw [show IntKind.u32.bits = 32 from rfl, this]
  exact wrap_nat32 (Nat.lt_of_lt_of_le (wordOf_lt _ n) (Nat.pow_le_pow_right (by decide) hn))

theorem wd_lt (f : List In4) : wd f < 2 ^ 32 := Nat.lt_of_lt_of_le (wordOf_lt _ 18) (by decide)
def nextL (x : In4) (i : Nat) : List Int := (offs x).map fun (o : Nat) => ((i + 1 + o : Nat) : Int)
theorem nexts_ok [HasIns G] [HasLive G] (x : In4) (i : Nat) (hx : x.k < 4294967296) (hb : x.brOk) (hi : i ≤ 5000) : FP G 170 [IV x, .int .i64 i] (.vs (ints .i64 (nextL x i)) .no) := by
  refine FP_of HasLive.h_live_nexts (Nat.le_of_ble_eq_true rfl) ?_
  have he := Ends_ok (G := G) x
  have hbr := Branch_ok (G := G) x
  have a1 : addI .i64 (i : Int) 1 = (i : Int) + 1 := by rw [addI64] <;> omega
  simp [IV, In4.cs, a1] at he hbr ⊢
  refine callP_of he ?_
  cases h1 : isEnd x.op
  · simp
    by_cases h5 : x.op = 5
    · have a2 : addI .i64 ((i : Int) + 1) (x.k : Int) = ((i + 1 + x.k : Nat) : Int) := by rw [addI64] <;> omega
      have hb5 : (x.op == 5) = true := by simp [h5]
      simp [hb5, convI64 x.k hx, a1, a2]
      simp [nextL, offs, h1, h5, ints, isEnd]
    · have hb5 : (x.op == 5) = false := beqF h5
      simp [hb5]
      refine callP_of hbr ?_
      cases h2 : isBr x.op
      · simp [nextL, offs, h1, h5, h2, ints, a1]
      · obtain ⟨b1, b2, b3, b4⟩ := hb h2
        have a3 : addI .i64 ((i : Int) + 1) x.jt = ((i + 1 + x.jt.toNat : Nat) : Int) := by rw [addI64] <;> omega
        have a4 : addI .i64 ((i : Int) + 1) x.jf = ((i + 1 + x.jf.toNat : Nat) : Int) := by rw [addI64] <;> omega
        simp [a1, a3, a4]
        simp [nextL, offs, h1, h5, h2, ints]
  · simp [nextL, offs, h1, ints]

theorem okAll_at : ∀ {f : List In4} {i : Nat} {x : In4}, okAll f = true → f[i]? = some x → oneB x (f.length - 1 - i) = true
  | y :: f, 0, x, h, hg => by
    simp only [List.getElem?_cons_zero, Option.some.injEq] at hg
    subst hg
    simp only [okAll, Bool.and_eq_true] at h
    simpa using h.1
  | y :: f, i + 1, x, h, hg => by
    simp only [okAll, Bool.and_eq_true] at h
    have := okAll_at h.2 (by simpa using hg)
    rw [← this]
    congr 1
    simp only [List.length_cons]; omega
theorem sound_at {f : List In4} {i : Nat} {x : In4} (h : soundF f = true) (hg : f[i]? = some x) : oneB x (f.length - 1 - i) = true ∧ (isEnd x.op = false → i + 1 < f.length) ∧ f.length ≤ 4096 := by
  simp only [soundF, Bool.and_eq_true, decide_eq_true_eq] at h
  refine ⟨okAll_at h.1.2 hg, fun he => ?_, h.1.1⟩
  obtain ⟨hi, hx⟩ := List.getElem?_eq_some_iff.1 hg
  by_cases hl : i + 1 < f.length
  · exact hl
  · have : i = f.length - 1 := by omega
    have h2 := h.2
    have : f.getLast? = some x := by rw [List.getLast?_eq_getElem?, ← this]; exact hg
    simp only [endB, this] at h2
    rw [h2] at he; cases he
theorem sound_offs {f : List In4} {i : Nat} {x : In4} (h : soundF f = true) (hg : f[i]? = some x) {o : Nat} (ho : o ∈ offs x) : i + 1 + o < f.length := by
  obtain ⟨h1, h2, h3⟩ := sound_at h hg
  simp only [oneB, Bool.and_eq_true] at h1
  unfold offs at ho
  split at ho
  · cases ho
  rename_i he
  have h2 := h2 (by simpa using he)
  split at ho
  · rename_i h5
    simp only [List.mem_singleton] at ho
    subst ho
    have := h1.1.2
    rw [if_pos h5, decide_eq_true_eq] at this
    omega
  split at ho
  · rename_i hb
    have hbr := right_br h1.1.1.1 hb
    have := h1.2
    rw [if_pos hb, decide_eq_true_eq] at this
    simp only [List.mem_cons, List.not_mem_nil, or_false] at ho
    rcases ho with rfl | rfl <;> omega
  · simp only [List.mem_singleton] at ho
    omega
theorem offs_len (x : In4) : (offs x).length ≤ 2 := by unfold offs; split; simp; split; simp; split <;> simp

/-- The cells while what is needed is found, from the last place. -/
def cellsAt (f : List In4) (k : Nat) : List Nat := List.replicate k 0 ++ needs (f.drop k)
theorem cellsAt_len (f : List In4) (k : Nat) (h : k ≤ f.length) : (cellsAt f k).length = f.length := by simp [cellsAt, needs_length]; omega
theorem cellsAt_get (f : List In4) (k j : Nat) (h : k ≤ j) (hj : j < f.length) : (cellsAt f k)[j]? = some (wd (f.drop j)) := by
  rw [cellsAt, List.getElem?_append_right (by simpa using h)]
  rw [List.length_replicate, needs_get _ _ (by simp; omega), List.drop_drop]
  congr 3; omega
theorem cellsAt_set (f : List In4) (k : Nat) (hk : k < f.length) : (cellsAt f (k + 1)).set k (wd (f.drop k)) = cellsAt f k := by
  unfold cellsAt
  rw [List.replicate_succ', List.append_assoc, List.set_append_right _ _ (by simp)]
  rw [List.drop_eq_getElem_cons hk]
  simp only [List.length_replicate, Nat.sub_self, List.singleton_append, List.set_cons_zero]
  rfl

theorem At_no [HasIns G] [HasCheck G] [HasLive G] (f : List In4) (hf : f.length ≤ maxLen) (hk : ∀ x ∈ f, x.k < 4294967296) (hs : soundF f = false) : FP G 171 [FL f] (.tup [.vs [] .no, .int .i64 1]) := by
  refine FP_of HasLive.h_live_At (Nat.le_of_ble_eq_true rfl) ?_
  have h1 := Sound_ok (G := G) f hf hk
  simp
  refine callP_of h1 ?_
  simp [hs]
theorem At_ok [HasIns G] [HasCheck G] [HasTells G] [HasLive G] (f : List In4) (hk : ∀ x ∈ f, x.k < 4294967296) (hs : soundF f = true) : FP G 171 [FL f] (.tup [.vs (nats .u32 (needs f)) .no, .int .i64 0]) := by
  have hl : f.length ≤ 4096 := by simp only [soundF, Bool.and_eq_true, decide_eq_true_eq] at hs; exact hs.1.1
  have hm : maxLen = 9223372036854775807 := by decide
  refine FP_of HasLive.h_live_At (Nat.le_of_ble_eq_true rfl) ?_
  have h1 := Sound_ok (G := G) f (by omega) hk
  simp
  refine callP_of h1 ?_
  have s1 : subI .i64 (f.length : Int) 1 = (f.length : Int) - 1 := by rw [subI64] <;> omega
  simp (disch := omega) [hs, FL, s1, leTn]
  refine W_up f.length (fun i => [(0, FL f), (4, .rs 0 0 f.length 1), (5, .int .i64 ((f.length : Int) - 1 - i))]) (fun i => [some (.cells (cnats .u32 (cellsAt f (f.length - i))))]) (fun _ => True) ?_ ?_
  · simp [keep_cl, trunc, FL, cellsAt, needs, zeros]
  intro i hi _
  by_cases hlt : i < f.length
  · have ht : ∃ t, t = f.length - 1 - i := ⟨_, rfl⟩
    obtain ⟨t, ht⟩ := ht
    have e1 : (f.length : Int) - 1 - i = (t : Int) := by omega
    have e2 : f.length - i = t + 1 := by omega
    have e3 : f.length - (i + 1) = t := by omega
    have htl : t < f.length := by omega
    have hg : f[t]? = some f[t] := List.getElem?_eq_getElem htl
    have hgg := FL_get htl
    have hxm : f[t] ∈ f := List.getElem_mem htl
    have hdr := List.drop_eq_getElem_cons htl
    generalize f[t] = x at hg hgg hxm hdr
    have hkk := hk x hxm
    obtain ⟨o1, _, _⟩ := sound_at hs hg
    simp only [oneB, Bool.and_eq_true] at o1
    have hn := nexts_ok (G := G) x t hkk (right_br o1.1.1.1) (by omega)
    have hu := Uses_ok (G := G) x
    have hse := Sets_ok (G := G) x
    have hcs : x.cs = [.int .i64 x.op, .int .i64 x.jt, .int .i64 x.jf, .int .u32 (x.k : Int)] := rfl
    simp [IV, hcs] at hn hu hse
    simp (disch := omega) [e1, e2, ltT, FL, hgg, hcs, leT]
    refine callP_of hn ?_
    simp
    refine W_up (offs x).length (fun j => [(0, FL f), (4, .rs 0 0 f.length 1), (5, .int .i64 t), (6, .int .u32 (wordOf (bh (f.drop (t + 1)) ((offs x).take j)) 18 : Nat)), (27, .vs (ints .i64 (nextL x t)) .no), (28, .int .i64 (offs x).length), (29, .int .i64 j)])
      (fun _ => [some (.cells (cnats .u32 (cellsAt f (t + 1))))]) (fun _ => True) ?_ ?_
    · have hb0 : wordOf (bh (f.drop (t + 1)) []) 18 = 0 := word_false 18
      simp [keep_cl, trunc, FL, hb0, nextL]
    intro j hj _
    have hol := offs_len x
    by_cases hjl : j < (offs x).length
    · have hgo : (offs x)[j]? = some (offs x)[j] := List.getElem?_eq_getElem hjl
      have hom : (offs x)[j] ∈ offs x := List.getElem_mem hjl
      have hof := sound_offs hs hg hom
      have htk : (offs x).take (j + 1) = (offs x).take j ++ [(offs x)[j]] := by rw [List.take_add_one, hgo]; rfl
      have hng : (nextL x t)[j]? = some ((t + 1 + (offs x)[j] : Nat) : Int) := by simp [nextL, hgo]
      generalize (offs x)[j] = o at hgo hom hof htk hng
      have hread : ((cnats .u32 (cellsAt f (t + 1))).drop (t + 1 + o)).take 1 = [.int .u32 (wd (f.drop (t + 1 + o)) : Nat)] := by
        have hcl := cellsAt_len f (t + 1) (by omega)
        have hcg := cellsAt_get f (t + 1) (t + 1 + o) (by omega) hof
        rw [cnats_get _ _ _ (by omega)]
        rw [List.getElem?_eq_getElem (by omega), Option.some.injEq] at hcg
        rw [hcg]
      have hor : orI .u32 ((wordOf (bh (f.drop (t + 1)) ((offs x).take j)) 18 : Nat) : Int) ((wd (f.drop (t + 1 + o)) : Nat) : Int) = ((wordOf (bh (f.drop (t + 1)) ((offs x).take (j + 1))) 18 : Nat) : Int) := by
        rw [or32 (Nat.lt_of_lt_of_le (wordOf_lt _ 18) (by decide)) (wd_lt _), htk, ← bh_snoc, List.drop_drop]
      have hcl := cellsAt_len f (t + 1) (by omega)
      simp (disch := omega) [ltT, hng, hread, hcl, hor, leTn, FL, keep_cl, trunc, add1', hjl, -Int.natCast_add]
    · have hne : j = (offs x).length := by omega
      subst hne
      rw [List.take_length]
      have hcl := cellsAt_len f (t + 1) (by omega)
      have hwd := wd_cons x (f.drop (t + 1))
      rw [← hdr] at hwd
      have hset := cellsAt_set f t htl
      have hlu : usesM x < 2 ^ 32 := Nat.lt_of_lt_of_le (wordOf_lt _ 18) (by decide)
      have hor : orI .u32 ((usesM x : Nat) : Int) (andnI .u32 ((wordOf (bh (f.drop (t + 1)) (offs x)) 18 : Nat) : Int) ((setsM x : Nat) : Int)) = ((wd (f.drop t) : Nat) : Int) := by
        rw [setsM, word_andn _ _ 18 (by decide), or32 hlu (Nat.lt_of_lt_of_le (wordOf_lt _ 18) (by decide)), usesM, word_or, hwd]
      have hcset := cnats_set .u32 (cellsAt f (t + 1)) t (wd (f.drop t)) (by omega)
      rw [hset] at hcset
      simp (disch := omega) [FL, hgg, hcs, ltT, leT, -Int.natCast_add]
      refine callP_of hu ?_
      simp (disch := omega) [FL, hgg, hcs, ltT, leT, -Int.natCast_add]
      refine callP_of hse ?_
      have s3 : subI .i64 (t : Int) 1 = (f.length : Int) - 1 - ((i + 1 : Nat) : Int) := by rw [subI64] <;> omega
      simp (disch := omega) [hor, hcl, leTn, hcset, htl, s3, keep_cl, trunc, hlt, e3, -Int.natCast_add]
  · have hne : i = f.length := by omega
    subst hne
    have hF : ((f.length : Int) ≤ (f.length : Int) - 1) = False := eq_false (by omega)
    have hc : cellsAt f 0 = needs f := by simp [cellsAt]
    have hch : chunks 1 f.length (cnats .u32 (needs f)) = nats .u32 (needs f) := by rw [← needs_length f]; exact cnats_chunks .u32 (needs f)
    have hnl := needs_length f
    simp [hF, hc, hnl, take_full hnl, hch, leTn]

theorem Behind_no [HasIns G] [HasCheck G] [HasTells G] [HasLive G] (f : List In4) (a : Int) (hf : f.length ≤ maxLen) (hk : ∀ x ∈ f, x.k < 4294967296) (h : soundF f = false ∨ a < 0 ∨ (f.length : Int) ≤ a) : FP G 172 [FL f, .int .i64 a] (.tup [.int .u32 0, .int .i64 1]) := by
  refine FP_of HasLive.h_live_Behind (Nat.le_of_ble_eq_true rfl) ?_
  cases hs : soundF f
  · simp
    refine callP_of (At_no f hf hk hs) ?_
    simp
  · simp
    refine callP_of (At_ok f hk hs) ?_
    rcases h with h | h | h
    · rw [hs] at h; cases h
    · simp [h]
    · have : ¬ a < 0 := by omega
      simp [this, h, FL]
theorem Behind_ok [HasIns G] [HasCheck G] [HasTells G] [HasLive G] (f : List In4) (t : Nat) (x : In4) (hg : f[t]? = some x) (hk : ∀ x ∈ f, x.k < 4294967296) (hs : soundF f = true) :
    FP G 172 [FL f, .int .i64 t] (.tup [.int .u32 (wordOf (bh (f.drop (t + 1)) (offs x)) 18 : Nat), .int .i64 0]) := by
  refine FP_of HasLive.h_live_Behind (Nat.le_of_ble_eq_true rfl) ?_
  obtain ⟨htl, hx⟩ := List.getElem?_eq_some_iff.1 hg
  have hgg := FL_get htl
  have hxm : f[t] ∈ f := List.getElem_mem htl
  rw [hx] at hgg hxm
  have hkk := hk x hxm
  obtain ⟨o1, _, hlen⟩ := sound_at hs hg
  simp only [oneB, Bool.and_eq_true] at o1
  have hn := nexts_ok (G := G) x t hkk (right_br o1.1.1.1) (by omega)
  have hcs : x.cs = [.int .i64 x.op, .int .i64 x.jt, .int .i64 x.jf, .int .u32 (x.k : Int)] := rfl
  simp [IV, hcs] at hn
  simp
  refine callP_of (At_ok f hk hs) ?_
  have hF : ((f.length : Int) ≤ (t : Int)) = False := eq_false (by omega)
  simp (disch := omega) [hF, ltF, FL, hgg, hcs]
  refine callP_of hn ?_
  simp
  refine W_up (offs x).length (fun j => [(6, .vs (nats .u32 (needs f)) .no), (8, .int .u32 (wordOf (bh (f.drop (t + 1)) ((offs x).take j)) 18 : Nat)), (33, .vs (ints .i64 (nextL x t)) .no), (34, .int .i64 (offs x).length), (35, .int .i64 j)])
    (fun _ => []) (fun _ => True) ?_ ?_
  · have hb0 : wordOf (bh (f.drop (t + 1)) []) 18 = 0 := word_false 18
    simp [keep_cl, trunc, FL, hb0, nextL]
  intro j hj _
  have hol := offs_len x
  by_cases hjl : j < (offs x).length
  · have hgo : (offs x)[j]? = some (offs x)[j] := List.getElem?_eq_getElem hjl
    have hom : (offs x)[j] ∈ offs x := List.getElem_mem hjl
    have hof := sound_offs hs hg hom
    have htk : (offs x).take (j + 1) = (offs x).take j ++ [(offs x)[j]] := by rw [List.take_add_one, hgo]; rfl
    have hng : (nextL x t)[j]? = some ((t + 1 + (offs x)[j] : Nat) : Int) := by simp [nextL, hgo]
    generalize (offs x)[j] = o at hgo hom hof htk hng
    have hread := needs_get f (t + 1 + o) hof
    have hor : orI .u32 ((wordOf (bh (f.drop (t + 1)) ((offs x).take j)) 18 : Nat) : Int) ((wd (f.drop (t + 1 + o)) : Nat) : Int) = ((wordOf (bh (f.drop (t + 1)) ((offs x).take (j + 1))) 18 : Nat) : Int) := by
      rw [or32 (Nat.lt_of_lt_of_le (wordOf_lt _ 18) (by decide)) (wd_lt _), htk, ← bh_snoc, List.drop_drop]
    simp (disch := omega) [ltT, hng, hread, hor, leTn, FL, keep_cl, trunc, add1', hjl, -Int.natCast_add]
  · have hne : j = (offs x).length := by omega
    subst hne
    simp
end Go.Ev

/- The law LiveLast. -/
namespace Go.Ev
open Go Go.RowKit
variable {G : Tbl}
set_option maxRecDepth 10000
set_option maxHeartbeats 2000000
set_option linter.unusedSimpArgs false
set_option linter.unusedVariables false

theorem sound_ne {f : List In4} (h : soundF f = true) : f ≠ [] := by
  rintro rfl; simp [soundF, endB] at h
/-- At the last place no more than A is needed. -/
theorem wd_last {f : List In4} {x : In4} (hs : soundF f = true) (hg : f[f.length - 1]? = some x) : wd (f.drop (f.length - 1)) ≤ 1 := by
  obtain ⟨htl, hx⟩ := List.getElem?_eq_some_iff.1 hg
  have he : isEnd x.op = true := by
    have h2 := (sound_at hs hg).2.1
    cases h : isEnd x.op
    · have := h2 h; omega
    · rfl
  rw [List.drop_eq_getElem_cons htl, hx, ← wd_cons]
  have ho : offs x = [] := by simp [offs, he]
  have hw : wordOf (fun p => usesP x p || (bh (f.drop (f.length - 1 + 1)) (offs x) p && !setsP x p)) 18 = wordOf (usesP x) 18 := by
    congr 1; funext p; simp [ho, bh]
  rw [hw]
  have hop : x.op = 6 ∨ x.op = 22 := by simpa [isEnd] using he
  have hu : ∀ p, 1 ≤ p → usesP x p = false := by
    intro p hp
    have : ¬ (x.op = 96 ∨ x.op = 97) := by omega
    unfold usesP
    rw [if_neg (by omega)]
    split
    · rcases hop with h | h <;> rw [h] <;> decide
    · simp; intro h; omega
  have key : ∀ n, wordOf (usesP x) (n + 1) ≤ 1 := by
    intro n
    induction n with
    | zero => simp [wordOf]; cases usesP x 0 <;> simp
    | succ n ih => rw [wordOf, hu (n + 1) (by omega)]; simpa using ih
  exact key 17
theorem wd_uses {f : List In4} {i : Nat} {x : In4} (hg : f[i]? = some x) : wd (f.drop i) &&& usesM x = usesM x := by
  obtain ⟨htl, hx⟩ := List.getElem?_eq_some_iff.1 hg
  rw [List.drop_eq_getElem_cons htl, hx]
  refine Nat.eq_of_testBit_eq fun j => ?_
  rw [Nat.testBit_and, wd, usesM, wordOf_bit, wordOf_bit, nd_cons]
  cases usesP x j <;> cases decide (j < 18) <;> simp

/-- LIVELAST. -/
theorem LiveLast_ok [HasIns G] [HasCheck G] [HasTells G] [HasLive G] [HasR2 G] [HasR5 G] [HasL7 G] (hkn : FP G 216 [] (.bool true)) (f : List In4) (hf : f.length ≤ maxLen) (hk : ∀ x ∈ f, x.k < 4294967296) : FP G 220 [FL f] (.bool true) := by
  refine FP_of HasL7.h_hurdlelaw07_LiveLast (Nat.le_of_ble_eq_true rfl) ?_
  by_cases hb : f.length > 300
  · have h1 : ((300 : Int) < (f.length : Int)) = True := eq_true (by omega)
    simp [FL, h1]
    refine callP_of hkn ?_
    simp
  have h1 : ((300 : Int) < (f.length : Int)) = False := eq_false (by omega)
  have hso := SoundR_ok (G := G) f hf hk
  simp [FL, h1] at hso ⊢
  refine callP_of hso ?_
  cases hs : soundF f
  · simp
    refine callP_of hkn ?_
    simp
  have hne := List.length_pos_iff.2 (sound_ne hs)
  have hat := At_ok (G := G) f hk hs
  simp [FL] at hat ⊢
  refine callP_of hat ?_
  have hnl := needs_length f
  have s1 : subI .i64 (f.length : Int) 1 = ((f.length - 1 : Nat) : Int) := by rw [subI64] <;> omega
  have hlast := needs_get f (f.length - 1) (by omega)
  have hg : f[f.length - 1]? = some (f[f.length - 1]'(by omega)) := List.getElem?_eq_getElem (by omega)
  have hw := wd_last hs hg
  have hle : ((1 : Int) < (wd (f.drop (f.length - 1)) : Int)) = False := eq_false (by omega)
  obtain ⟨hbl, hv⟩ := List.getElem?_eq_some_iff.1 hlast
  simp (disch := omega) [hnl, s1, hlast, hv, hle]
  refine W_up f.length (fun i => [(0, FL f), (3, .vs (nats .u32 (needs f)) .no), (5, .int .i64 i)]) (fun _ => []) (fun _ => True) ?_ ?_
  · simp [keep_cl, trunc, FL]
  intro i hi _
  by_cases hlt : i < f.length
  · have hgg := FL_get hlt
    have hg : f[i]? = some f[i] := List.getElem?_eq_getElem hlt
    have hng := needs_get f i hlt
    obtain ⟨hbl, hngv⟩ := List.getElem?_eq_some_iff.1 hng
    generalize f[i] = x at hg hgg
    have hu := Uses_ok (G := G) x
    have hcs : x.cs = [.int .i64 x.op, .int .i64 x.jt, .int .i64 x.jf, .int .u32 (x.k : Int)] := rfl
    simp [IV, hcs] at hu
    have han : andI .u32 ((wd (f.drop i) : Nat) : Int) ((usesM x : Nat) : Int) = ((usesM x : Nat) : Int) := by
      rw [and32 (wd_lt _) (show usesM x < 2 ^ 32 from Nat.lt_of_lt_of_le (wordOf_lt _ 18) (by decide)), wd_uses hg]
    simp (disch := omega) [ltT, FL, hng, hngv, hnl, hgg, hcs]
    refine callP_of hu ?_
    simp (disch := omega) [ltT, FL, hng, hngv, hnl, hgg, hcs]
    refine callP_of hu ?_
    simp (disch := omega) [han, hlt, add1', keep_cl, trunc, FL, -Int.natCast_add]
  · have hne : i = f.length := by omega
    subst hne
    simp [FL]
    refine callP_of hkn ?_
    simp
end Go.Ev

/- What hurdleref07 says is needed. -/
namespace Go.Ev
open Go Go.RowKit
variable {G : Tbl}
set_option maxRecDepth 10000
set_option maxHeartbeats 2000000
set_option linter.unusedSimpArgs false
set_option linter.unusedVariables false

/-- Cells that are bits. -/
def cb (l : List Bool) : List V := l.map V.bool
@[simp] theorem cb_length (l : List Bool) : (cb l).length = l.length := by simp [cb]
@[simp] theorem cb_cl (n : Nat) (l : List Bool) : clL n (cb l) = cb l := by
  rw [clL_eq_map]; simp [cb, Function.comp_def]
theorem cb_get (l : List Bool) (i : Nat) (b : Bool) (h : l[i]? = some b) : ((cb l).drop i).take 1 = [.bool b] := by
  obtain ⟨hl, rfl⟩ := List.getElem?_eq_some_iff.1 h
  rw [cb, ← List.map_drop, List.drop_eq_getElem_cons hl]
  rfl
theorem cb_set (l : List Bool) (i : Nat) (x : Bool) (h : i < l.length) : (cb l).take i ++ (V.bool x :: (cb l).drop (i + 1)) = cb (l.set i x) := by
  rw [cb, ← List.map_drop, ← List.map_take, List.set_eq_take_append_cons_drop, if_pos h]
  simp [cb]
@[simp] theorem cb_pure (l : List Bool) : (cb l).all V.pure = true := by simp [cb]
@[simp high] theorem ev1_mkslb (base : Nat) (e : Env) (H : Heap) (s bytes : Nat) (n : X) : ev1 base e H (.mksl s bytes [.bool false] n) = (match n.ev e with
    | .int _ m => if isFree H (base + s) = true ∧ 0 ≤ m ∧ m.toNat * bytes ≤ 140737488355328 then some (.rs (base + s) 0 m.toNat 1, H.set (base + s) (some (.cells (cb (List.replicate m.toNat false))))) else none
    | _ => none) := by
  have h : ∀ m : Nat, (List.replicate m [V.bool false]).flatten = cb (List.replicate m false) := fun m => by
    induction m with
    | zero => rfl
    | succ m ih => rw [List.replicate_succ, List.flatten_cons, ih]; simp [cb, List.replicate_succ]
  rw [ev1.eq_27]
  cases n.ev e <;> simp only [h, List.length_singleton]

/-- What is over so many is what an instruction goes to. -/
theorem want_offs {x : In4} (hb : x.brOk) (o : Nat) : wantB x o = decide (o ∈ offs x) := by
  unfold wantB offs
  cases he : isEnd x.op
  · simp only [Bool.not_false, Bool.true_and, Bool.false_eq_true, if_false]
    by_cases h5 : x.op = 5
    · have : isBr x.op = false := by rw [h5]; decide
      simp [h5, show isBr 5 = false by decide]
    · cases hbr : isBr x.op
      · simp [h5]
      · obtain ⟨h1, h2, h3, h4⟩ := hb hbr
        simp only [if_true, h5, if_false, List.mem_cons, List.not_mem_nil, or_false]
        rw [Bool.eq_iff_iff]
        simp only [Bool.or_eq_true, decide_eq_true_eq]
        omega
  · simp
theorem any_nx {x : In4} (hb : x.brOk) {i m : Nat} (ho : ∀ o ∈ offs x, o < m) (q : Nat → Bool) : (nxL x i m).any (fun j => q (j.toNat - (i + 1))) = (offs x).any q := by
  rw [Bool.eq_iff_iff, List.any_eq_true, List.any_eq_true]
  constructor
  · rintro ⟨j, hj, hq⟩
    simp only [nxL, List.mem_map, List.mem_filter, List.mem_range] at hj
    obtain ⟨o, ⟨_, hw⟩, rfl⟩ := hj
    rw [want_offs hb, decide_eq_true_eq] at hw
    refine ⟨o, hw, ?_⟩
    rw [show ((i + 1 + o : Nat) : Int).toNat - (i + 1) = o by omega] at hq
    exact hq
  · rintro ⟨o, ho', hq⟩
    refine ⟨((i + 1 + o : Nat) : Int), ?_, ?_⟩
    · simp only [nxL, List.mem_map, List.mem_filter, List.mem_range]
      exact ⟨o, ⟨ho o ho', by rw [want_offs hb]; simpa using ho'⟩, rfl⟩
    · rw [show ((i + 1 + o : Nat) : Int).toNat - (i + 1) = o by omega]; exact hq
theorem nx_get {x : In4} {i m j : Nat} (h : j < (nxL x i m).length) : ∃ o, (nxL x i m)[j]? = some ((i + 1 + o : Nat) : Int) ∧ o < m := by
  have hm : (nxL x i m)[j] ∈ nxL x i m := List.getElem_mem h
  rw [List.getElem?_eq_getElem h]
  generalize (nxL x i m)[j] = v at hm
  simp only [nxL, List.mem_map, List.mem_filter, List.mem_range] at hm
  obtain ⟨o, ⟨ho, _⟩, rfl⟩ := hm
  exact ⟨o, rfl, ho⟩
theorem sound_lt {f : List In4} {i : Nat} {x : In4} (h : soundF f = true) (hg : f[i]? = some x) : ∀ o ∈ offs x, o < f.length - 1 - i := fun o ho => by
  have := sound_offs h hg ho; omega
theorem sound_br {f : List In4} {i : Nat} {x : In4} (h : soundF f = true) (hg : f[i]? = some x) : x.brOk := by
  have := (sound_at h hg).1
  simp only [oneB, Bool.and_eq_true] at this
  exact right_br this.1.1.1

/-- The cells while a part's need is found. -/
def bitsAt (f : List In4) (p k : Nat) : List Bool := List.replicate k false ++ ndL p (f.drop k)
theorem bitsAt_len (f : List In4) (p k : Nat) (h : k ≤ f.length) : (bitsAt f p k).length = f.length := by simp [bitsAt, ndL_length]; omega
theorem ndL_get (p : Nat) (f : List In4) (i : Nat) (h : i < f.length) : (ndL p f)[i]? = some (nd (f.drop i) p) := by
  rw [← nd_get, List.getD_eq_getElem?_getD, List.getElem?_eq_getElem (by rw [ndL_length]; exact h)]; rfl
theorem bitsAt_get (f : List In4) (p k j : Nat) (h : k ≤ j) (hj : j < f.length) : (bitsAt f p k)[j]? = some (nd (f.drop j) p) := by
  rw [bitsAt, List.getElem?_append_right (by simpa using h)]
  rw [List.length_replicate, ndL_get _ _ _ (by simp; omega), List.drop_drop]
  congr 3; omega
theorem bitsAt_set (f : List In4) (p k : Nat) (hk : k < f.length) : (bitsAt f p (k + 1)).set k (nd (f.drop k) p) = bitsAt f p k := by
  unfold bitsAt
  rw [List.replicate_succ', List.append_assoc, List.set_append_right _ _ (by simp)]
  have h0 : (ndL p (f.drop k)) = nd (f.drop k) p :: ndL p (f.drop (k + 1)) := by
    rw [List.drop_eq_getElem_cons hk]; rfl
  rw [h0]
  simp

theorem Needed_ok [HasR2 G] [HasR5 G] [HasR5n G] [HasR7 G] [HasR7n G] (f : List In4) (at' p : Nat) (hk : ∀ x ∈ f, x.k < 4294967296) (hs : soundF f = true) (ha : at' < f.length) (hp : p < 18) : FP G 197 [FL f, .int .i64 at', .int .i64 p] (.bool (nd (f.drop at') p)) := by
  have hl : f.length ≤ 4096 := by simp only [soundF, Bool.and_eq_true, decide_eq_true_eq] at hs; exact hs.1.1
  refine FP_of HasR7n.h_hurdleref07_Needed (Nat.le_of_ble_eq_true rfl) ?_
  have s1 : subI .i64 (f.length : Int) 1 = (f.length : Int) - 1 := by rw [subI64] <;> omega
  simp (disch := omega) [FL, s1, leTn]
  refine W_up (f.length - at') (fun i => [(0, FL f), (1, .int .i64 at'), (2, .int .i64 p), (7, .rs 0 0 f.length 1), (8, .int .i64 ((f.length : Int) - 1 - i))]) (fun i => [some (.cells (cb (bitsAt f p (f.length - i))))]) (fun _ => True) ?_ ?_
  · simp [keep_cl, trunc, FL, bitsAt, ndL]
  intro i hi _
  by_cases hlt : i < f.length - at'
  · have ht : ∃ t, t = f.length - 1 - i := ⟨_, rfl⟩
    obtain ⟨t, ht⟩ := ht
    have e1 : (f.length : Int) - 1 - i = (t : Int) := by omega
    have e2 : f.length - i = t + 1 := by omega
    have e3 : f.length - (i + 1) = t := by omega
    have htl : t < f.length := by omega
    have hg : f[t]? = some f[t] := List.getElem?_eq_getElem htl
    have hgg := FL_get htl
    have hxm : f[t] ∈ f := List.getElem_mem htl
    have hdr := List.drop_eq_getElem_cons htl
    generalize f[t] = x at hg hgg hxm hdr
    have hkk := hk x hxm
    have hn := Next_ok (G := G) f t x hg (by omega) hkk
    have hu := UsesR_ok (G := G) x p (by omega) hkk
    have hse := SetsR_ok (G := G) x p (by omega) hkk
    have hcs : x.cs = [.int .i64 x.op, .int .i64 x.jt, .int .i64 x.jf, .int .u32 (x.k : Int)] := rfl
    have hml : ∃ m, m = f.length - 1 - t := ⟨_, rfl⟩
    obtain ⟨m, hm⟩ := hml
    rw [← hm] at hn
    have hbl := bitsAt_len f p (t + 1) (by omega)
    have hall := any_nx (x := x) (i := t) (sound_br hs hg) (sound_lt hs hg) (fun o => nd (f.drop (t + 1 + o)) p)
    rw [← hm] at hall
    have hnlen := nxL_len x t m
    simp [IV, hcs, FL] at hn hu hse
    have hle : ((at' : Int) ≤ (t : Int)) = True := eq_true (by omega)
    have hst0 := cb_set (bitsAt f p (t + 1)) t (usesP x p) (by omega)
    simp (disch := omega) [e1, e2, ltT, FL, hgg, hcs, hle]
    refine callP_of hu ?_
    simp (disch := omega) [hbl, ltT, leTn, htl, hst0]
    refine callP_of hn ?_
    simp
    refine W_up (nxL x t m).length (fun j => [(0, FL f), (1, .int .i64 at'), (2, .int .i64 p), (7, .rs 0 0 f.length 1), (8, .int .i64 t), (9, .vs (ints .i64 (nxL x t m)) .no), (10, .int .i64 j)])
      (fun j => [some (.cells (cb ((bitsAt f p (t + 1)).set t (usesP x p || (((nxL x t m).take j).any (fun v => nd (f.drop v.toNat) p) && !setsP x p)))))]) (fun _ => True) ?_ ?_
    · simp [keep_cl, trunc, FL]
    intro j hj _
    by_cases hjl : j < (nxL x t m).length
    · obtain ⟨o, hng, hom⟩ := nx_get hjl
      have htk : (nxL x t m).take (j + 1) = (nxL x t m).take j ++ [((t + 1 + o : Nat) : Int)] := by rw [List.take_add_one, hng]; rfl
      obtain ⟨_, hngv⟩ := List.getElem?_eq_some_iff.1 hng
      have hof : t + 1 + o < f.length := by omega
      have hrd := bitsAt_get f p (t + 1) (t + 1 + o) (by omega) hof
      have hany : ((nxL x t m).take (j + 1)).any (fun v => nd (f.drop v.toNat) p) = (((nxL x t m).take j).any (fun v => nd (f.drop v.toNat) p) || nd (f.drop (t + 1 + o)) p) := by
        rw [htk, List.any_append]; simp [-Int.natCast_add]
      generalize ((nxL x t m).take j).any (fun v => nd (f.drop v.toNat) p) = c at hany
      have hread : ∀ c0 : Bool, ((cb ((bitsAt f p (t + 1)).set t c0)).drop (t + 1 + o)).take 1 = [.bool (nd (f.drop (t + 1 + o)) p)] := fun c0 => by
        apply cb_get
        rw [List.getElem?_set_ne (by omega)]
        exact hrd
      have hwr : ∀ c0 : Bool, (cb ((bitsAt f p (t + 1)).set t c0)).take t ++ (V.bool true :: (cb ((bitsAt f p (t + 1)).set t c0)).drop (t + 1)) = cb ((bitsAt f p (t + 1)).set t true) := fun c0 => by
        rw [cb_set _ _ _ (by rw [List.length_set]; omega), List.set_set]
      cases hnd : nd (f.drop (t + 1 + o)) p
      · rw [hnd, Bool.or_false] at hany
        simp only [hnd] at hread
        simp (disch := omega) [ltT, hng, hngv, hjl, hread, hbl, leTn, keep_cl, trunc, FL, add1', hany, -Int.natCast_add]
      · rw [hnd, Bool.or_true] at hany
        simp only [hnd] at hread
        simp (disch := omega) [ltT, hng, hngv, hjl, hread, hbl, leTn, FL, hgg, hcs, -Int.natCast_add]
        refine callP_of hse ?_
        cases hst : setsP x p
        · simp (disch := omega) [hst, hwr, hbl, htl, leTn, ltT, hjl, keep_cl, trunc, FL, add1', hany, -Int.natCast_add]
        · simp (disch := omega) [hst, hbl, leTn, hjl, keep_cl, trunc, FL, add1', hany, -Int.natCast_add]
    · have hne : j = (nxL x t m).length := by omega
      subst hne
      have hset := bitsAt_set f p t htl
      have hw2 : (usesP x p || ((nxL x t m).any (fun v => nd (f.drop v.toNat) p) && !setsP x p)) = nd (f.drop t) p := by
        rw [hdr, nd_cons]
        congr 2
        simp only [List.drop_drop]
        rw [← hall, Bool.eq_iff_iff, List.any_eq_true, List.any_eq_true]
        have same : ∀ v ∈ nxL x t m, t + 1 + (v.toNat - (t + 1)) = v.toNat := by
          intro v hv
          simp only [nxL, List.mem_map] at hv
          obtain ⟨o, _, rfl⟩ := hv
          omega
        exact ⟨fun ⟨v, h1, h2⟩ => ⟨v, h1, by rw [same v h1]; exact h2⟩, fun ⟨v, h1, h2⟩ => ⟨v, h1, by rw [same v h1] at h2; exact h2⟩⟩
      have s3 : subI .i64 (t : Int) 1 = (f.length : Int) - 1 - ((i + 1 : Nat) : Int) := by rw [subI64] <;> omega
      rw [List.take_length, hw2, hset]
      simp (disch := omega) [s3, hlt, e3, keep_cl, trunc, FL, -Int.natCast_add]
  · have hne : i = f.length - at' := by omega
    subst hne
    have hF : ((at' : Int) ≤ (f.length : Int) - 1 - ((f.length - at' : Nat) : Int)) = False := eq_false (by omega)
    have e5 : f.length - (f.length - at') = at' := by omega
    have hbl := bitsAt_len f p at' (by omega)
    have hread := cb_get _ _ _ (bitsAt_get f p at' at' (by omega) ha)
    simp (disch := omega) [hF, e5, hbl, hread, leTn, ltTn]
end Go.Ev

/- The law LivePlaces. -/
namespace Go.Ev
open Go Go.RowKit
variable {G : Tbl}
set_option maxRecDepth 10000
set_option maxHeartbeats 2000000
set_option linter.unusedSimpArgs false
set_option linter.unusedVariables false

theorem AtR_ok [HasR2 G] [HasR5 G] [HasR5n G] [HasR7 G] [HasR7n G] (f : List In4) (t : Nat) (hk : ∀ x ∈ f, x.k < 4294967296) (hs : soundF f = true) (ha : t < f.length) : FP G 198 [FL f, .int .i64 t] (.int .u32 (wd (f.drop t) : Nat)) := by
  refine FP_of HasR7n.h_hurdleref07_At (Nat.le_of_ble_eq_true rfl) ?_
  simp
  refine W_up 18 (fun i => [(0, FL f), (1, .int .i64 t), (5, .vs (bools ((List.range i).map (nd (f.drop t)))) (.own 0)), (6, .int .i64 i)]) (fun i => [some (.zone i)]) (fun _ => True) ?_ ?_
  · simp [keep_cl, trunc, FL]
  intro i hi _
  by_cases hlt : i < 18
  · have hn := Needed_ok (G := G) f t i hk hs ha hlt
    simp [FL] at hn
    simp (disch := omega) [ltT, FL, -Int.natCast_add]
    refine callP_of hn ?_
    simp (disch := omega) [leTn, add1', hlt, keep_cl, trunc, FL, List.range_succ, -Int.natCast_add]
  · have hne : i = 18 := by omega
    subst hne
    simp
    refine callP_of (Mask_ok _ (by simp) (nd (f.drop t)) fun i hi => by simp [hi]) ?_
    simp [wd]
theorem BehindR_ok [HasR2 G] [HasR5 G] [HasR5n G] [HasR7 G] [HasR7n G] (f : List In4) (t : Nat) (x : In4) (hg : f[t]? = some x) (hk : ∀ x ∈ f, x.k < 4294967296) (hs : soundF f = true) :
    FP G 199 [FL f, .int .i64 t] (.int .u32 (wordOf (bh (f.drop (t + 1)) (offs x)) 18 : Nat)) := by
  refine FP_of HasR7n.h_hurdleref07_Behind (Nat.le_of_ble_eq_true rfl) ?_
  obtain ⟨htl, hx⟩ := List.getElem?_eq_some_iff.1 hg
  have hl := (sound_at hs hg).2.2
  have hxm : x ∈ f := hx ▸ List.getElem_mem htl
  have hn := Next_ok (G := G) f t x hg (by omega) (hk x hxm)
  have hml : ∃ m, m = f.length - 1 - t := ⟨_, rfl⟩
  obtain ⟨m, hm⟩ := hml
  have hall := fun q => any_nx (x := x) (i := t) (sound_br hs hg) (sound_lt hs hg) q
  rw [← hm] at hn hall
  have hnlen := nxL_len x t m
  simp [FL] at hn
  simp [FL]
  refine callP_of hn ?_
  have same : ∀ v ∈ nxL x t m, t + 1 + (v.toNat - (t + 1)) = v.toNat := by
    intro v hv
    simp only [nxL, List.mem_map] at hv
    obtain ⟨o, _, rfl⟩ := hv
    omega
  have hbh : ∀ p, (nxL x t m).any (fun v => nd (f.drop v.toNat) p) = bh (f.drop (t + 1)) (offs x) p := by
    intro p
    unfold bh
    rw [← hall (fun o => nd ((f.drop (t + 1)).drop o) p)]
    simp only [List.drop_drop]
    rw [Bool.eq_iff_iff, List.any_eq_true, List.any_eq_true]
    exact ⟨fun ⟨v, h1, h2⟩ => ⟨v, h1, by rw [same v h1]; exact h2⟩, fun ⟨v, h1, h2⟩ => ⟨v, h1, by rw [same v h1] at h2; exact h2⟩⟩
  simp
  refine W_up 18 (fun i => [(0, FL f), (5, .vs (ints .i64 (nxL x t m)) .no), (6, .vs (bools ((List.range i).map (bh (f.drop (t + 1)) (offs x)))) (.own 0)), (7, .int .i64 i)]) (fun i => [some (.zone i)]) (fun _ => True) ?_ ?_
  · simp [keep_cl, trunc, FL]
  intro i hi _
  by_cases hlt : i < 18
  · simp (disch := omega) [ltT, -Int.natCast_add]
    refine W_up (nxL x t m).length (fun j => [(0, FL f), (5, .vs (ints .i64 (nxL x t m)) .no), (6, .vs (bools ((List.range i).map (bh (f.drop (t + 1)) (offs x)))) (.own 0)), (7, .int .i64 i), (8, .bool (((nxL x t m).take j).any (fun v => nd (f.drop v.toNat) i))), (9, .int .i64 j)])
      (fun j => [some (.zone i)]) (fun _ => True) ?_ ?_
    · simp [keep_cl, trunc, FL]
    intro j hj _
    by_cases hjl : j < (nxL x t m).length
    · obtain ⟨o, hng, hom⟩ := nx_get hjl
      have htk : (nxL x t m).take (j + 1) = (nxL x t m).take j ++ [((t + 1 + o : Nat) : Int)] := by rw [List.take_add_one, hng]; rfl
      obtain ⟨_, hngv⟩ := List.getElem?_eq_some_iff.1 hng
      have hany : ((nxL x t m).take (j + 1)).any (fun v => nd (f.drop v.toNat) i) = (((nxL x t m).take j).any (fun v => nd (f.drop v.toNat) i) || nd (f.drop (t + 1 + o)) i) := by
        rw [htk, List.any_append]; simp [-Int.natCast_add]
      have hnn := Needed_ok (G := G) f (t + 1 + o) i hk hs (by omega) hlt
      simp [FL, -Int.natCast_add] at hnn
      generalize ((nxL x t m).take j).any (fun v => nd (f.drop v.toNat) i) = c at hany
      cases c
      · simp (disch := omega) [ltT, hng, hngv, hjl, FL, -Int.natCast_add]
        refine callP_of hnn ?_
        simp (disch := omega) [hjl, keep_cl, trunc, FL, add1', hany, -Int.natCast_add]
      · simp (disch := omega) [ltT, hng, hngv, hjl, keep_cl, trunc, FL, add1', hany, -Int.natCast_add]
    · have hne : j = (nxL x t m).length := by omega
      subst hne
      rw [List.take_length, hbh]
      simp (disch := omega) [leTn, add1', hlt, keep_cl, trunc, FL, List.range_succ, -Int.natCast_add]
  · have hne : i = 18 := by omega
    subst hne
    simp
    refine callP_of (Mask_ok _ (by simp) (bh (f.drop (t + 1)) (offs x)) fun i hi => by simp [hi]) ?_
    simp

/-- LIVEPLACES. -/
theorem LivePlaces_ok [HasIns G] [HasCheck G] [HasTells G] [HasLive G] [HasR2 G] [HasR5 G] [HasR5n G] [HasR7 G] [HasR7n G] [HasL7 G] (hkn : FP G 216 [] (.bool true)) (f : List In4) (a : Int) (hf : f.length ≤ maxLen) (hk : ∀ x ∈ f, x.k < 4294967296) :
    FP G 218 [FL f, .int .i64 a] (.bool true) := by
  refine FP_of HasL7.h_hurdlelaw07_LivePlaces (Nat.le_of_ble_eq_true rfl) ?_
  by_cases hb : f.length > 60
  · have h1 : ((60 : Int) < (f.length : Int)) = True := eq_true (by omega)
    simp [FL, h1]
    refine callP_of hkn ?_
    simp
  have h1 : ((60 : Int) < (f.length : Int)) = False := eq_false (by omega)
  have hso := SoundR_ok (G := G) f hf hk
  simp only [FL] at hso
  cases hs : soundF f
  · rw [hs] at hso
    have hat := At_no (G := G) f hf hk hs
    have hbe := Behind_no (G := G) f a hf hk (.inl hs)
    simp only [FL] at hat hbe
    simp [FL, h1]
    refine callP_of hat ?_
    simp
    refine callP_of hbe ?_
    simp
    refine callP_of hso ?_
    simp
    refine callP_of hkn ?_
    simp
  rw [hs] at hso
  have hat := At_ok (G := G) f hk hs
  have hnl := needs_length f
  simp only [FL] at hat
  have main : ∀ (b : Nat) (e : Int), FP G 172 [FL f, .int .i64 a] (.tup [.int .u32 (b : Int), .int .i64 e]) → ((a < 0 ∨ (f.length : Int) ≤ a) → b = 0 ∧ e = 1) →
      (∀ t : Nat, a = t → t < f.length → FP G 199 [FL f, .int .i64 t] (.int .u32 (b : Int)) ∧ e = 0) → W G c_hurdlelaw07_LivePlaces.2 [] (mkE (idxE 0 [FL f, .int .i64 a])) [] (QF [.tmp 4] fun x => x = .bool true) := by
    intro b e hbe hout hin
    simp only [FL] at hbe hin
    simp [c_hurdlelaw07_LivePlaces, FL, h1]
    refine callP_of hat ?_
    simp
    refine callP_of hbe ?_
    simp
    refine callP_of hso ?_
    simp [hnl]
    refine W_up f.length (fun i => [(0, FL f), (1, .int .i64 a), (5, .vs (nats .u32 (needs f)) .no), (7, .int .u32 (b : Int)), (8, .int .i64 e), (9, .int .i64 i)]) (fun _ => []) (fun _ => True) ?_ ?_
    · simp [keep_cl, trunc, FL]
    intro i hi _
    by_cases hlt : i < f.length
    · have hng := needs_get f i hlt
      obtain ⟨hbl, hngv⟩ := List.getElem?_eq_some_iff.1 hng
      have har := AtR_ok (G := G) f i hk hs hlt
      simp only [FL] at har
      simp (disch := omega) [ltT, FL, hng, hngv, hnl]
      refine callP_of har ?_
      simp (disch := omega) [hlt, add1', keep_cl, trunc, FL, -Int.natCast_add]
    · have hne : i = f.length := by omega
      subst hne
      by_cases hr : a < 0
      · obtain ⟨rfl, rfl⟩ := hout (.inl hr)
        simp [FL, hr]
        refine callP_of hkn ?_
        simp
      · by_cases hr2 : (f.length : Int) ≤ a
        · obtain ⟨rfl, rfl⟩ := hout (.inr hr2)
          simp [FL, hr, hr2]
          refine callP_of hkn ?_
          simp
        · obtain ⟨t, rfl⟩ := Int.eq_ofNat_of_zero_le (show 0 ≤ a by omega)
          obtain ⟨hb2, rfl⟩ := hin t rfl (by omega)
          have hF : ((f.length : Int) ≤ (t : Int)) = False := eq_false hr2
          have hF0 : ((t : Int) < 0) = False := eq_false hr
          simp [FL, hF, hF0]
          refine callP_of hb2 ?_
          simp
          refine callP_of hkn ?_
          simp
  by_cases hr : a < 0 ∨ (f.length : Int) ≤ a
  · exact main 0 1 (Behind_no f a hf hk (.inr hr)) (fun _ => ⟨rfl, rfl⟩) fun t h1 h2 => by omega
  · obtain ⟨t, rfl⟩ := Int.eq_ofNat_of_zero_le (show 0 ≤ a by omega)
    have hg : f[t]? = some (f[t]'(by omega)) := List.getElem?_eq_getElem (by omega)
    exact main _ 0 (Behind_ok f t _ hg hk hs) (fun h => absurd h hr) fun t' h1 h2 => by
      have : t' = t := by omega
      subst this
      exact ⟨BehindR_ok f t' _ hg hk hs, rfl⟩
end Go.Ev
