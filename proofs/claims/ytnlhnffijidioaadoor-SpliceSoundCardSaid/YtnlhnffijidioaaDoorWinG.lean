/- The laws SpliceSound and SpliceSelf. -/
import Derived.Test.YtnlhnffijidioaaDoorWinF
import Derived.Test.YtnlhnffijidioaaDoorWinE
namespace Go.Ev
open Go Go.RowKit
variable {G : Tbl}
set_option maxRecDepth 10000
set_option maxHeartbeats 2000000
set_option linter.unusedSimpArgs false
set_option linter.unusedVariables false

theorem okAll_of : ∀ {f : List In4}, (∀ i x, f[i]? = some x → oneB x (f.length - 1 - i) = true) → okAll f = true
  | [], _ => rfl
  | x :: f, h => by
    rw [okAll, Bool.and_eq_true]
    refine ⟨by have := h 0 x rfl; simpa using this, okAll_of fun i y hy => ?_⟩
    have := h (i + 1) y (by simpa using hy)
    rw [← this]; congr 1; simp only [List.length_cons]; omega
theorem right_put {x : In4} (a e less i : Nat) (h : rightI x = true) (hr : ruleB x = true) : rightI (putI a e less i x) = true ∧ ruleB (putI a e less i x) = true := by
  have hbo := right_br h
  have hadl : ∀ d : Nat, adjN a e less i d ≤ d := fun d => by unfold adjN; split <;> omega
  unfold putI
  by_cases h5 : x.op = 5
  · rw [if_pos h5]
    refine ⟨?_, ?_⟩
    · have hs : shapeOf 5 = some (5, [106, 97], true, false) := by decide
      unfold rightI at h ⊢
      simp only [h5, hs, Bool.true_or, Bool.true_and] at h ⊢
      exact h
    · simp [ruleB, h5]
  · rw [if_neg h5]
    by_cases hb : isBr x.op = true
    · rw [if_pos hb]
      obtain ⟨b1, b2, b3, b4⟩ := hbo hb
      have := hadl x.jt.toNat
      have := hadl x.jf.toNat
      refine ⟨?_, ?_⟩
      · unfold rightI at h ⊢
        simp only at h ⊢
        split at h
        · rename_i r hsr
          simp only [hsr, Bool.and_eq_true] at h ⊢
          refine ⟨h.1, ?_⟩
          have key : ∀ r ∈ shapeRows, isBr r.1 = r.2.2.2 := by decide
          obtain ⟨q1, q2⟩ := shape_some hsr
          have := key r q2
          rw [q1, hb] at this
          rw [← this]
          simp only [if_true, decide_eq_true_eq]
          omega
        · cases h
      · have hn : ∀ p ∈ [21, 37, 53, 69, 29, 45, 61, (77 : Int)], p ≠ 32 ∧ p ≠ 52 ∧ ¬ (p = 2 ∨ p = 3 ∨ p = 96 ∨ p = 97) ∧ ¬ (p = 100 ∨ p = 116) := by decide
        obtain ⟨n1, n2, n3, n4⟩ := hn _ (by simpa [isBr] using hb)
        simp only [ruleB, n1, n2, n3, n4, if_false]
    · rw [if_neg hb]; exact ⟨h, hr⟩
theorem put_op (a e less i : Nat) (x : In4) : (putI a e less i x).op = x.op := by
  unfold putI
  split
  · rfl
  · split <;> rfl
theorem plain_one {x : In4} (h : plainW x = true) (left : Nat) : oneB x left = true := by
  simp only [plainW, Bool.and_eq_true] at h
  rw [one_plain h.1.1, h.1.2, h.2]; rfl
theorem win_mem {w : List In4} (h : winB w = true) : ∀ x ∈ w, plainW x = true := by
  simp only [winB, Bool.and_eq_true, List.all_eq_true] at h
  exact h.2
/-- A piece does not hold the last instruction. -/
theorem free_last {f : List In4} {a n : Nat} (hs : soundF f = true) (hf : freeN f a n = true) (hn : 0 < n) (hbd : a + n ≤ f.length) : a + n < f.length := by
  by_cases h : a + n < f.length
  · exact h
  · exfalso
    have hg : f[a + n - 1]? = some (f[a + n - 1]'(by omega)) := List.getElem?_eq_getElem (by omega)
    obtain ⟨_, h2, _⟩ := sound_at hs hg
    have hm : f[a + n - 1]'(by omega) ∈ (f.drop a).take n := by
      refine List.mem_of_getElem? (i := n - 1) ?_
      rw [List.getElem?_take, if_pos (by omega), List.getElem?_drop, show a + (n - 1) = a + n - 1 by omega]
      exact hg
    simp only [freeN, Bool.and_eq_true] at hf
    have hp := win_mem hf.1 _ hm
    simp only [plainW, Bool.and_eq_true] at hp
    have := h2 (goesOn_not hp.1.1).2.2
    omega
theorem no_hit {f : List In4} {a n : Nat} (hf : freeN f a n = true) {i : Nat} {x : In4} (hg : f[i]? = some x) {t : Nat} (h1 : a < t) (h2 : t < a + n) : jumpB x i t = false := by
  simp only [freeN, Bool.and_eq_true, noHit, List.all_eq_true, List.mem_range, Bool.not_eq_true'] at hf
  have := hf.2 (t - a - 1) (by omega)
  rw [show a + 1 + (t - a - 1) = t by omega, hitB, ← Bool.not_eq_true, List.any_eq_true] at this
  rw [← Bool.not_eq_true]
  intro h
  refine this ⟨i, List.mem_range.2 (List.getElem?_eq_some_iff.1 hg).1, ?_⟩
  rw [List.getD, hg]; exact h
theorem putL_len {f w : List In4} {a n : Nat} (hbd : a + n ≤ f.length) : (putL f a n w).length = f.length - n + w.length := by
  simp only [putL, List.length_append, pre_len, List.length_drop]; omega
theorem put_sound {f w : List In4} {a n : Nat} (hs : soundF f = true) (hf : freeN f a n = true) (hn : 0 < n) (hbd : a + n ≤ f.length) (hw : winB w = true) (hwn : w.length ≤ n) : soundF (putL f a n w) = true := by
  have hlast := free_last hs hf hn hbd
  have hL := putL_len (w := w) hbd
  have hl := sound_le hs
  have h1 : okAll (putL f a n w) = true := by
    refine okAll_of fun i x hx => ?_
    rw [hL]
    by_cases hia : i < a
    · rw [putL, List.append_assoc, List.getElem?_append_left (by rw [pre_len]; exact hia)] at hx
      have hg : f[i]? = some (f[i]'(by omega)) := List.getElem?_eq_getElem (by omega)
      obtain ⟨y, hy⟩ : ∃ y, y = f[i]'(by omega) := ⟨_, rfl⟩
      rw [← hy] at hg
      have hx2 : x = putI a (a + n) (n - w.length) i y := by
        rw [pre, List.getElem?_map, List.getElem?_range hia] at hx
        simp only [Option.map_some, Option.some.injEq] at hx
        rw [← hx, List.getD, hg]; rfl
      subst hx2
      have ho := (sound_at hs hg).1
      simp only [oneB, Bool.and_eq_true] at ho
      obtain ⟨⟨⟨o1, o2⟩, o3⟩, o4⟩ := ho
      obtain ⟨r1, r2⟩ := right_put a (a + n) (n - w.length) i o1 o2
      have hbo := right_br o1
      rw [oneB, put_op, r1, r2]
      have tgt : ∀ d : Nat, jumpB y i (i + 1 + d) = true → i + 1 + d < f.length → adjN a (a + n) (n - w.length) i d < f.length - n + w.length - 1 - i := by
        intro d hj hd
        have hnh : ¬ (a < i + 1 + d ∧ i + 1 + d < a + n) := fun ⟨h1, h2⟩ => by rw [no_hit hf hg h1 h2] at hj; cases hj
        unfold adjN
        split <;> omega
      by_cases h5 : y.op = 5
      · have hb : isBr y.op = false := by rw [h5]; decide
        rw [if_pos h5, decide_eq_true_eq] at o3
        have := tgt y.k (by simp [jumpB, h5]) (by omega)
        simp only [hb, h5, if_true, Bool.true_and, Bool.false_eq_true, if_false, Bool.and_true, decide_eq_true_eq, show isBr 5 = false by decide]
        simp only [putI, h5, if_true]
        exact this
      · cases hb : isBr y.op
        · simp [h5]
        · obtain ⟨b1, b2, b3, b4⟩ := hbo hb
          rw [if_pos hb, decide_eq_true_eq] at o4
          have t1 := tgt y.jt.toNat (by simp [jumpB, h5, hb]) (by omega)
          have t2 := tgt y.jf.toNat (by simp [jumpB, h5, hb]) (by omega)
          simp only [h5, hb, if_false, if_true, Bool.true_and, decide_eq_true_eq]
          simp only [putI, h5, hb, if_false, if_true]
          omega
    · rw [putL, List.append_assoc, List.getElem?_append_right (by rw [pre_len]; omega), pre_len] at hx
      by_cases hiw : i - a < w.length
      · rw [List.getElem?_append_left hiw] at hx
        exact plain_one (win_mem hw x (List.mem_of_getElem? hx)) _
      · rw [List.getElem?_append_right (by omega), List.getElem?_drop] at hx
        have ho := (sound_at hs hx).1
        rw [← ho]; congr 1
        have := (List.getElem?_eq_some_iff.1 hx).1
        omega
  have h2 : endB (putL f a n w) = true := by
    have he : endB f = true := by simp only [soundF, Bool.and_eq_true] at hs; exact hs.2
    have hne : f.drop (a + n) ≠ [] := by
      intro h
      have := congrArg List.length h
      rw [List.length_drop] at this; simp at this; omega
    have : (putL f a n w).getLast? = f.getLast? := by
      rw [putL, List.getLast?_append, List.getLast?_drop, if_neg (by omega)]
      cases hq : f.getLast? with
      | none => simp only [endB, hq] at he; cases he
      | some z => rfl
    simp only [endB, this]
    exact he
  have h3 : (putL f a n w).length ≤ 4096 := by rw [hL]; omega
  simp [soundF, h1, h2, h3]

/-- SPLICESOUND. -/
theorem great_ok [HasL22 G] (f w : List In4) : FP G 223 [FL f, FL w] (.bool (decide (100 < f.length) || decide (100 < w.length))) := by
  refine FP_of HasL22.h_hurdlelaw22_great (Nat.le_of_ble_eq_true rfl) ?_
  by_cases h : 100 < f.length
  · have h1 : ((100 : Int) < (f.length : Int)) = True := eq_true (by omega)
    simp [FL, h, h1]
  · have h1 : ((100 : Int) < (f.length : Int)) = False := eq_false (by omega)
    have h2 : ((100 : Int) < (w.length : Int)) = (100 < w.length) := propext (by omega)
    simp [FL, h, h1, h2]
theorem okPut_at {f w : List In4} {a n : Int} (h : okPut f a n w = true) : ∃ a' n' : Nat, a = a' ∧ n = n' ∧ soundF f = true ∧ freeN f a' n' = true ∧ 0 < n' ∧ a' + n' ≤ f.length ∧ winB w = true ∧ w.length ≤ n' := by
  simp only [okPut, freeZ, freeR, inB, Bool.and_eq_true, decide_eq_true_eq] at h
  obtain ⟨⟨⟨hs, ⟨h1, h2, h3, h4⟩, hf⟩, hw⟩, hl⟩ := h
  exact ⟨a.toNat, n.toNat, by omega, by omega, hs, hf, by omega, by omega, hw, by omega⟩
theorem put_k {f w : List In4} {a n : Nat} (hk : ∀ x ∈ f, x.k < 4294967296) (hkw : ∀ x ∈ w, x.k < 4294967296) : ∀ x ∈ putL f a n w, x.k < 4294967296 := by
  intro x hx
  simp only [putL, List.mem_append] at hx
  rcases hx with (hx | hx) | hx
  · simp only [pre, List.mem_map, List.mem_range] at hx
    obtain ⟨i, hi, rfl⟩ := hx
    have hy : (f.getD i RET).k < 4294967296 := by
      rw [List.getD]
      cases hg : f[i]? with
      | none => decide
      | some z => exact hk z (List.mem_of_getElem? hg)
    generalize f.getD i RET = y at hy
    have hadl : ∀ d : Nat, adjN a (a + n) (n - w.length) i d ≤ d := fun d => by unfold adjN; split <;> omega
    unfold putI
    split
    · have := hadl y.k; simp only; omega
    · split <;> exact hy
  · exact hkw x hx
  · exact hk x (List.mem_of_mem_drop hx)

theorem SpliceSound_ok [HasIns G] [HasCheck G] [HasWRight G] [HasSpl G] [HasL22 G] (hkn : FP G 224 [] (.bool true)) (f w : List In4) (a n : Int) (hf : f.length ≤ maxLen) (hw : w.length ≤ maxLen) (hk : ∀ x ∈ f, x.k < 4294967296) (hkw : ∀ x ∈ w, x.k < 4294967296) :
    FP G 227 [FL f, .int .i64 a, .int .i64 n, FL w] (.bool true) := by
  refine FP_of HasL22.h_hurdlelaw22_SpliceSound (Nat.le_of_ble_eq_true rfl) ?_
  have hgr := great_ok (G := G) f w
  simp
  refine callP_of hgr ?_
  by_cases hb : 100 < f.length ∨ 100 < w.length
  · have : (decide (100 < f.length) || decide (100 < w.length)) = true := by simpa using hb
    rw [this]
    simp
    refine callP_of hkn ?_
    simp
  have : (decide (100 < f.length) || decide (100 < w.length)) = false := by simp at hb ⊢; exact hb
  rw [this]
  cases hp : okPut f a n w
  · simp
    refine callP_of (Put_no f w a n hf hw hk hkw hp) ?_
    simp
    refine callP_of hkn ?_
    simp
  · obtain ⟨a, n, rfl, rfl, hs, hfn, hn, hbd, hwb, hwn⟩ := okPut_at hp
    have hL := putL_len (w := w) hbd
    have hps := put_sound hs hfn hn hbd hwb hwn
    have hso := Sound_ok (G := G) (putL f a n w) (by omega) (put_k hk hkw)
    rw [hps] at hso
    have hput := Put_ok (G := G) f w a n hf hw hk hkw hp
    simp only [FL] at hso hput
    simp [FL]
    refine callP_of hput ?_
    simp
    refine callP_of hso ?_
    have s1 : subI .i64 (f.length : Int) (n : Int) = ((f.length - n : Nat) : Int) := by rw [subI64] <;> omega
    have a1 : addI .i64 ((f.length - n : Nat) : Int) (w.length : Int) = ((f.length - n + w.length : Nat) : Int) := addN (by omega)
    simp [hL, s1, a1, -Int.natCast_add]
    refine callP_of hkn ?_
    simp

/-- To put in what is there. -/
theorem put_same {f : List In4} {a n : Nat} (hs : soundF f = true) (hbd : a + n ≤ f.length) : putL f a n ((f.drop a).take n) = f := by
  have hl : ((f.drop a).take n).length = n := by rw [List.length_take, List.length_drop]; omega
  have hp : pre f a (a + n) (n - n) a = f.take a := by
    refine List.ext_getElem? fun i => ?_
    by_cases hi : i < a
    · have hg : f[i]? = some (f[i]'(by omega)) := List.getElem?_eq_getElem (by omega)
      obtain ⟨y, hy⟩ : ∃ y, y = f[i]'(by omega) := ⟨_, rfl⟩
      rw [← hy] at hg
      have hbo := sound_br hs hg
      rw [pre, List.getElem?_map, List.getElem?_range hi, List.getElem?_take, if_pos hi, hg, Option.map_some, List.getD, hg]
      have hadj : ∀ d, adjN a (a + n) (n - n) i d = d := fun d => by unfold adjN; split <;> omega
      simp only [putI, hadj, Option.getD_some, Option.some.injEq]
      obtain ⟨op, jt, jf, k⟩ := y
      by_cases h5 : op = 5
      · simp [h5]
      · cases hbx : isBr op
        · simp [h5]
        · obtain ⟨b1, b2, b3, b4⟩ := hbo hbx
          simp only at b1 b2 b3 b4
          simp [h5]; omega
    · rw [List.getElem?_eq_none (by rw [pre_len]; omega), List.getElem?_eq_none (by rw [List.length_take]; omega)]
  rw [putL, hl, hp, List.append_assoc, ← List.drop_drop, List.take_append_drop, List.take_append_drop]
theorem free_part {f : List In4} {a n b m : Nat} (hf : freeN f a n = true) (h1 : a ≤ b) (h2 : b + m ≤ a + n) (hm : 0 < m) : freeN f b m = true := by
  simp only [freeN, Bool.and_eq_true] at hf ⊢
  refine ⟨?_, ?_⟩
  · simp only [winB, Bool.and_eq_true, List.all_eq_true, decide_eq_true_eq] at hf ⊢
    have hsub : ∀ x ∈ (f.drop b).take m, x ∈ (f.drop a).take n := by
      intro x hx
      obtain ⟨i, hi⟩ := List.getElem?_of_mem hx
      rw [List.getElem?_take] at hi
      split at hi
      · rw [List.getElem?_drop] at hi
        refine List.mem_of_getElem? (i := b - a + i) ?_
        rw [List.getElem?_take, if_pos (by omega), List.getElem?_drop, show a + (b - a + i) = b + i by omega]
        exact hi
      · cases hi
    refine ⟨?_, fun x hx => hf.1.2 x (hsub x hx)⟩
    have := hf.1.1
    simp only [List.length_take, List.length_drop] at this ⊢
    omega
  · have hf := hf.2
    simp only [noHit, List.all_eq_true, List.mem_range] at hf ⊢
    intro j hj
    have := hf (b - a + j) (by omega)
    rw [show a + 1 + (b - a + j) = b + 1 + j by omega] at this
    exact this

/-- SPLICESELF. -/
theorem SpliceSelf_ok [HasIns G] [HasCheck G] [HasWRight G] [HasSpl G] [HasR2 G] [HasR3 G] [HasR5 G] [HasR17 G] [HasR22 G] [HasL22 G] (hkn : FP G 224 [] (.bool true)) (f : List In4) (a n : Int) (z : Nat) (hf : f.length ≤ maxLen) (hk : ∀ x ∈ f, x.k < 4294967296) (hz : z < 256) :
    FP G 228 [FL f, .int .i64 a, .int .i64 n, .int .u8 z] (.bool true) := by
  refine FP_of HasL22.h_hurdlelaw22_SpliceSelf (Nat.le_of_ble_eq_true rfl) ?_
  by_cases hb : f.length > 100
  · have h1 : ((100 : Int) < (f.length : Int)) = True := eq_true (by omega)
    simp [FL, h1]
    refine callP_of hkn ?_
    simp
  have h1 : ((100 : Int) < (f.length : Int)) = False := eq_false (by omega)
  have hfR := FreeR_ok (G := G) f a n hf hk
  have hfP := Free_ok (G := G) f a n hf hk
  simp only [FL] at hfR hfP
  cases hfz : freeZ f a n
  · rw [hfz] at hfR hfP
    simp [FL, h1]
    refine callP_of hfR ?_
    simp [h1]
    refine callP_of hfP ?_
    simp
    refine callP_of hkn ?_
    simp
  rw [hfz] at hfR
  have hfz0 := hfz
  simp only [freeZ, freeR, inB, Bool.and_eq_true, decide_eq_true_eq] at hfz
  obtain ⟨hs, ⟨i1, i2, i3, i4⟩, hfn⟩ := hfz
  obtain ⟨a, rfl⟩ := Int.eq_ofNat_of_zero_le i1
  obtain ⟨n, rfl⟩ := Int.eq_ofNat_of_zero_le (show 0 ≤ n by omega)
  simp only [Int.toNat_natCast] at hfn
  have hbd : a + n ≤ f.length := by omega
  have hlw : ((f.drop a).take n).length = n := by rw [List.length_take, List.length_drop]; omega
  have hwb : winB ((f.drop a).take n) = true := by simp only [freeN, Bool.and_eq_true] at hfn; exact hfn.1
  have hok : okPut f a n ((f.drop a).take n) = true := by simp [okPut, hfz0, hwb]; omega
  have hput := Put_ok (G := G) f ((f.drop a).take n) a n hf (by omega) hk (slice_k hk a n) hok
  rw [put_same hs hbd] at hput
  have hsame := Same03_ok (G := G) f f (by omega)
  have fr : ∀ b m : Nat, a ≤ b → b + m ≤ a + n → 0 < m → FP G 206 [FL f, .int .i64 b, .int .i64 m] (.bool true) := by
    intro b m g1 g2 g3
    have := Free_ok (G := G) f b m hf hk
    have hfr : freeZ f b m = true := by
      simp only [freeZ, freeR, inB, hs, Int.toNat_natCast, free_part hfn g1 g2 g3, Bool.and_true, Bool.true_and, decide_eq_true_eq]; omega
    rw [hfr] at this; exact this
  have hd : z % n < n := Nat.mod_lt _ (by omega)
  have f1 := fr a (n - z % n) (by omega) (by omega) (by omega)
  have f2 := fr (a + z % n) (n - z % n) (by omega) (by omega) (by omega)
  have r1 : remI (z : Int) (n : Int) = ((z % n : Nat) : Int) := rem64
  have c1 : convI .i64 (z : Int) = (z : Int) := convI64 z (by omega)
  have s1 : subI .i64 (n : Int) ((z % n : Nat) : Int) = ((n - z % n : Nat) : Int) := by rw [subI64] <;> omega
  have a1 : addI .i64 (a : Int) ((z % n : Nat) : Int) = ((a + z % n : Nat) : Int) := addN (by omega)
  have aa : addI .i64 (a : Int) (n : Int) = ((a + n : Nat) : Int) := addN (by omega)
  have hsl : List.take n (List.drop a (IL f)) = IL ((f.drop a).take n) := by rw [IL_drop, IL_take]
  have hnz : ((n : Int) = 0) = False := eq_false (by omega)
  have hnz2 : (n = 0) = False := eq_false (by omega)
  simp only [FL] at hput hsame f1 f2
  simp [FL, h1]
  refine callP_of hfR ?_
  simp (disch := omega) [aa, leTn, hsl, -Int.natCast_add]
  refine callP_of hput ?_
  simp [c1, r1, hnz2, -Int.natCast_emod]
  refine callP_of hsame ?_
  simp [s1, -Int.natCast_emod]
  refine callP_of f1 ?_
  simp [s1, a1, -Int.natCast_emod, -Int.natCast_add]
  refine callP_of f2 ?_
  simp
  refine callP_of hkn ?_
  simp
end Go.Ev
