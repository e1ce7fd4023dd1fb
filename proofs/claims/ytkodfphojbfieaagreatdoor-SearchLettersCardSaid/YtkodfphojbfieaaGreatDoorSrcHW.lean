/- search.Candidate; hurdleref19.Ends. -/
import Derived.Test.YtkodfphojbfieaaGreatDoorDecEW
import Derived.Test.YtkodfphojbfieaaGreatDoorRunFW
import Derived.KernelRfl
set_option linter.unusedVariables false
set_option linter.unusedSimpArgs false
namespace Go.Ev
open Go Go.RowKit
variable {G : Tbl}
set_option maxRecDepth 10000
set_option maxHeartbeats 4000000
set_option linter.unusedSimpArgs false
set_option linter.unusedVariables false
def candAs : SCode := .seq (.region 0 [⟨some 9, .mv (.t 22), none⟩]) (.region 0 [⟨some 10, .mv (.t 23), none⟩])
def candBo : SCode := .block 1 (.seq (.region 0 [⟨some 24, .mv (.t 9), none⟩, ⟨some 25, .load 1 false false (.t 3), none⟩, ⟨some 26, .bin .eql (.t 24) (.t 25), none⟩]) (.cond (.t 26) (.seq
 (.region 0 [⟨some 27, .mv (.t 10), none⟩, ⟨none, .store 1 (.t 4) (.t 27), none⟩, ⟨none, .store 1 (.t 5) (.c (.bool true)), none⟩, ⟨none, .store 1 (.t 6) (.c (.int .i64 0)), none⟩]) .ret) .skip))
def candE : List (Nat × V) := [(3, .ptr 0 0), (4, .ptr 1 0), (5, .ptr 2 0), (6, .ptr 3 0)]
def CH (w L : List In4) (q : Int) (o : List In4) (b : Bool) (st : LSt) : Heap :=
 [some (.cells [.int .i64 q]), some (.cells [.vs (IL o) .full]), some (.cells [.bool b]), some (.cells [.int .i64 0]), some (.cells [.vs (IL w) .no]), some (.cells [.vs (IL L) .no]), some (.loop candE [22, 23] candAs candBo st)]
section
variable {w L o : List In4} {q : Int} {b : Bool} {st : LSt}
theorem CH_shut : HShut (CH w L q o b st) := by
 intro n hn
 simp only [CH, List.length_cons, List.length_nil] at hn
 simp [CH, candE, Blk.cl, clL, V.cl, Tk.cl, show 0 < n by omega, show 1 < n by omega, show 2 < n by omega, show 3 < n by omega]
theorem cand1Y_ok (k : Nat) (c : List In4) (X : Heap) (hX : ∀ n, X.map (Option.map (Blk.cl n)) = X) :
  YS G 6 [.int .i64 k, .vs (IL c) .full] (CH w L q [] false .ready ++ X) (!decide ((k : Int) = q)) (if (k : Int) = q then CH w L q c true (.done .ret) ++ X else CH w L q [] false .ready ++ X) := by
 have nF : ∀ o b st, (CH w L q o b st).length = 7 := fun o b st => rfl
 obtain ⟨b', H', hy, rfl, rfl⟩ := YS_of (R := fun b' H' => b' = (!decide ((k : Int) = q)) ∧ H' = (if (k : Int) = q then CH w L q c true (.done .ret) ++ X else CH w L q [] false .ready ++ X))
  (G := G) (H := CH w L q [] false .ready ++ X) (id := 6) (args := [.int .i64 k, .vs (IL c) .full]) (e0 := candE) (ps := [22, 23]) (as := candAs) (bo := candBo) rfl rfl (by
  have s8 : ∀ o b st st' (r : Heap), (CH w L q o b st ++ r).set 6 (some (.loop candE [22, 23] candAs candBo st')) = CH w L q o b st' ++ r := fun o b st st' r => rfl
  have g8 : ∀ o b st (r : Heap), (CH w L q o b st ++ r)[6]? = some (some (.loop candE [22, 23] candAs candBo st)) := fun o b st r => rfl
  have g0 : ∀ o b st (r : Heap), (CH w L q o b st ++ r)[0]? = some (some (.cells [.int .i64 q])) := fun o b st r => rfl
  have g1 : ∀ o b st (r : Heap), (CH w L q o b st ++ r)[1]? = some (some (.cells [.vs (IL o) .full])) := fun o b st r => rfl
  have g2 : ∀ o b st (r : Heap), (CH w L q o b st ++ r)[2]? = some (some (.cells [.bool b])) := fun o b st r => rfl
  have g3 : ∀ o b st (r : Heap), (CH w L q o b st ++ r)[3]? = some (some (.cells [.int .i64 0])) := fun o b st r => rfl
  have s1 : ∀ o o' b st (r : Heap), (CH w L q o b st ++ r).set 1 (some (.cells [.vs (IL o') .full])) = CH w L q o' b st ++ r := fun o o' b st r => rfl
  have s2 : ∀ o b b' st (r : Heap), (CH w L q o b st ++ r).set 2 (some (.cells [.bool b'])) = CH w L q o b' st ++ r := fun o b b' st r => rfl
  have s3 : ∀ o b st (r : Heap), (CH w L q o b st ++ r).set 3 (some (.cells [.int .i64 0])) = CH w L q o b st ++ r := fun o b st r => rfl
  have fb0 : ∀ o b st, trunc (7 + X.length) (CH w L q o b st ++ X) = CH w L q o b st ++ X := fun o b st => by
   have := ((CH_shut (w := w) (L := L) (q := q) (o := o) (b := b) (st := st)).app hX).self
   rw [List.length_append, nF] at this
   exact this
  simp [candAs, candE, putP]
  refine ⟨_, _, _, _, g8 _ _ _ _, ?_⟩
  rw [s8]
  simp [candBo, nF, g0]
  by_cases h0 : (k : Int) = q
  ·have hq : ((k : Int) == q) = true := by simp [h0]
   simp [h0, hq, nF, g0, g1, g2, g3, s1, s2, s3, g8]
   exact ⟨_, _, _, _, ⟨rfl, rfl, rfl, rfl⟩, fb0 _ _ _⟩
  ·simp [h0, beqF h0, nF, g8]
   exact ⟨_, _, _, _, ⟨rfl, rfl, rfl, rfl⟩, fb0 _ _ _⟩)
 exact hy
end
theorem Cand_no [HasIns G] [HasCheck G] [HasWRight G] [HasSrcL G] [HasSrcA G] (w : List In4) (q : Int) (hf : w.length ≤ maxLen) (hk : ∀ x ∈ w, x.k < 4294967296) (hw : winB w = false) :
  FP G 338 [FL w, .int .i64 q] (.tup [FL [], .bool false, .int .i64 1]) := by
 refine FP_of HasSrcA.h_search_Candidate (Nat.le_of_ble_eq_true rfl) ?_
 have hl := Letters_no (G := G) w hf hk hw
 simp only [FL] at hl
 simp [FL]
 refine callP_of hl ?_
 simp
theorem Cand_ok [HasWd G] [HasNeg G] [HasIns G] [HasCheck G] [HasWRight G] [HasWinOf G] [HasAffine G] [hBE : HasBitsE G] [HasSymNew G] [HasSym G] [HasSymEval G] [HasSrcN G] [HasSrcL G] [HasSrcC G] [HasSrcA G]
  (w : List In4) (q : Int) (hf : w.length ≤ maxLen) (hk : ∀ x ∈ w, x.k < 4294967296) (hw : winB w = true) :
  FP G 338 [FL w, .int .i64 q] (.tup [FL (if 0 ≤ q then (candL w (lettersW w))[q.toNat]?.getD [] else []), .bool (decide (0 ≤ q ∧ q < (candL w (lettersW w)).length)), .int .i64 0]) := by
 refine FP_of HasSrcA.h_search_Candidate (Nat.le_of_ble_eq_true rfl) ?_
 have hl := Letters_ok (G := G) w hf hk hw (nums_lt hk hw)
 have hLl := lettersW_len hw
 have hw32 : w.length ≤ 32 := by simp only [winB, Bool.and_eq_true, decide_eq_true_eq] at hw; exact hw.1
 change FP G 330 [FL w] (.tup [FL (lettersW w), .int .i64 0]) at hl
 generalize lettersW w = L at hl hLl ⊢
 simp only [FL] at hl
 obtain ⟨rc, hrc⟩ : ∃ rc, rc = (if 0 ≤ q then (candL w L)[q.toNat]?.getD [] else []) := ⟨_, rfl⟩
 obtain ⟨rb, hrb⟩ : ∃ rb, rb = decide (0 ≤ q ∧ q < ((candL w L).length : Int)) := ⟨_, rfl⟩
 rw [← hrc, ← hrb]
 simp [FL]
 refine callP_of hl ?_
 simp
 refine callK_of (Cands_F _ w L) (by simp) ?_
 simp
 have hcnd := cands1_ok (G := G) (H := CH w L q [] false .ready) CH_shut (id := 6) (i1 := 4) (i2 := 5) (w := w) (L := L) (tk := .no) (by omega) (by omega) rfl rfl (show 6 < 7 by decide) (hit := fun k _ => decide ((k : Int) = q))
  (H' := fun k c => CH w L q c true (.done .ret))
  (fun k c hc hh X hX => by
   have := cand1Y_ok (G := G) (w := w) (L := L) (q := q) k c X hX
   have hn : ¬ (k : Int) = q := by simpa using hh
   rw [hh, if_neg hn] at this
   exact this)
  (fun k c hc hh X hX => by
   have := cand1Y_ok (G := G) (w := w) (L := L) (q := q) k c X hX
   have hn : (k : Int) = q := by simpa using hh
   rw [hh, if_pos hn] at this
   exact this)
  (fun k c hc hh => ⟨(CH_shut (w := w) (L := L) (q := q) (o := c) (b := true) (st := .done .ret)).self, rfl⟩)
 have ht8 : ∀ o b st, trunc 6 (CH w L q o b st) = [some (.cells [.int .i64 q]), some (.cells [.vs (IL o) .full]), some (.cells [.bool b]), some (.cells [.int .i64 0]), some (.cells [.vs (IL w) .no]), some (.cells [.vs (IL L) .no])] := fun o b st => by
  simp [trunc, CH, Blk.cl, clL, V.cl, Tk.cl]
 by_cases hin : 0 ≤ q ∧ q < (candL w L).length
 ·obtain ⟨n, rfl⟩ := Int.eq_ofNat_of_zero_le hin.1
  have hn : n < (candL w L).length := by omega
  obtain ⟨c, hc⟩ : ∃ c, (candL w L)[n]? = some c := ⟨_, List.getElem?_eq_getElem hn⟩
  have hfc : firstC (fun (k : Nat) (_ : List In4) => decide ((k : Int) = (n : Int))) (candL w L) 0 = some (n, c) := by
   have := firstC_at (hit := fun (k : Nat) (_ : List In4) => decide ((k : Int) = (n : Int))) (k := 0) hc (by simp) (fun i hi c _ => by simp; omega)
   rwa [Nat.zero_add] at this
  rw [hfc] at hcnd
  simp only [] at hcnd
  have e1 : decide ((0 : Int) ≤ (n : Int) ∧ (n : Int) < ((candL w L).length : Int)) = true := by simp; omega
  have e2 : (if (0 : Int) ≤ (n : Int) then (candL w L)[(n : Int).toNat]?.getD [] else []) = c := by rw [if_pos (by omega), Int.toNat_natCast, hc]; rfl
  rw [e1] at hrb
  rw [e2] at hrc
  subst hrb hrc
  refine rangeSF_of (x := .ret) hcnd rfl (.inr ⟨rfl, by simp⟩) ?_
  simp [ht8, keep_cl]
 ·have hfc : firstC (fun (k : Nat) (_ : List In4) => decide ((k : Int) = q)) (candL w L) 0 = none := firstC_none fun j hj c _ => by simp; omega
  rw [hfc] at hcnd
  simp only [] at hcnd
  have e2 : (if 0 ≤ q then (candL w L)[q.toNat]?.getD [] else []) = [] := by
   split
   ·rw [List.getElem?_eq_none (by omega)]; rfl
   ·rfl
  rw [decide_eq_false hin] at hrb
  rw [e2] at hrc
  subst hrb hrc
  refine rangeSF_of hcnd rfl (.inl ⟨rfl, rfl⟩) ?_
  simp [ht8, keep_cl]
def Da0 : Da := ⟨0, 0, 0, zeros 6⟩
theorem da0_ok : Da0.ok := ⟨by decide, by decide, by decide, by simp [Da0], fun w hw => by
 simp only [Da0, zeros, List.mem_replicate] at hw
 omega⟩
theorem Ends19_ok [HasR2 G] [hR1 : HasR1 G] [HasR1n G] [HasR4 G] [HasR6s G] [HasR17r G] [HasR19e G] (w : List In4) (a : Nat) (hf : w.length ≤ 1000000) (hk : ∀ x ∈ w, x.k < 4294967296) (ha : a < 4294967296) :
  FP G 339 [FL w, .int .u32 a] (.tup [.int .u32 ((runW Da0 w ⟨a, 0, zeros 16⟩).1.a : Nat), .bool (decide ((runW Da0 w ⟨a, 0, zeros 16⟩).2 = w.length))]) := by
 refine FP_of HasR19e.h_hurdleref19_Ends (Nat.le_of_ble_eq_true rfl) ?_
 have hs : (⟨a, 0, zeros 16⟩ : St).ok := ⟨ha, show (0 : Nat) < 4294967296 by decide, by simp, fun w hw => by
  simp only [zeros, List.mem_replicate] at hw
  omega⟩
 have hr := WinRunR_ok (G := G) w ⟨a, 0, zeros 16⟩ Da0 hf hk hs da0_ok
 have ho := runW_ok da0_ok w ⟨a, 0, zeros 16⟩ hs hk
 obtain ⟨R, hR⟩ : ∃ R, R = runW Da0 w ⟨a, 0, zeros 16⟩ := ⟨_, rfl⟩
 rw [← hR] at hr ho ⊢
 have sl := cs_len ho
 have st := List.take_of_length_le (i := 18) (l := R.1.cs) (by omega)
 have sd : (cnats .u32 (zeros 18)).drop 18 = [] := rfl
 have s0 : R.1.cs.take 1 = [.int .u32 (R.1.a : Int)] := rfl
 have sn := cs_nf R.1
 have sk := fun n => cs_cl R.1 n
 simp only [FL] at hr
 simp [FL]
 refine callP_of hr ?_
 simp [SV, sl, st, sd, s0, sn, sk, keep_cl]
 have he : ((R.2 : Int) == (w.length : Int)) = decide (R.2 = w.length) := by rw [Bool.eq_iff_iff]; simp
 simp [he]
end Go.Ev
/- The parts of windows of sums, and of bits: plain laws. -/
namespace Go.Ev
open Go Go.RowKit
set_option maxRecDepth 10000
set_option maxHeartbeats 2000000
set_option linter.unusedSimpArgs false
set_option linter.unusedVariables false
variable {G : Tbl} {L L' : List Nd}
def Lasts (F : Nat → List Nd → Int → Prop) : Prop := ∀ i L L' x, F i L x → L <+: L' → F i L' x
def AllN (F : Nat → List Nd → Int → Prop) (n : Nat) (L : List Nd) (p : List Int) : Prop := p.length = 18 ∧ ∀ i < n, F i L (p.getD i 0)
theorem AllN.pre {F : Nat → List Nd → Int → Prop} {n : Nat} {p : List Int} (h : AllN F n L p) (hF : Lasts F) (e : L <+: L') : AllN F n L' p := ⟨h.1, fun i hi => hF i _ _ _ (h.2 i hi) e⟩
theorem AllN.set {F : Nat → List Nd → Int → Prop} {n i : Nat} {p : List Int} {x : Int} (h : AllN F n L p) (hF : Lasts F) (e : L <+: L') (hx : F i L' x) : AllN F n L' (p.set i x) := by
 refine ⟨by rw [List.length_set]; exact h.1, fun j hj => ?_⟩
 by_cases hij : i = j
 ·subst hij
  by_cases hl : i < p.length
  ·rw [List.getD_eq_getElem?_getD, List.getElem?_set_self hl]; exact hx
  ·rw [List.set_eq_of_length_le (by omega)]; exact hF _ _ _ _ (h.2 i hj) e
 ·rw [List.getD_eq_getElem?_getD, List.getElem?_set_ne hij, ← List.getD_eq_getElem?_getD]; exact hF _ _ _ _ (h.2 j hj) e
end Go.Ev
/- What is found: plain laws; the examples of layer 19. -/
namespace Go.Ev
open Go Go.RowKit
variable {G : Tbl}
set_option maxRecDepth 10000
set_option maxHeartbeats 4000000
set_option linter.unusedSimpArgs false
set_option linter.unusedVariables false
section
variable {w : List In4} {live : Nat} {tries : Int}
theorem fnd_at {k : Nat} {c : List In4} (hc : (candL w (lettersW w))[k]? = some c) (hk : (k : Int) < tries) (he : (decR w c live).1 = 0)
  (h : ∀ j < k, ∀ c, (candL w (lettersW w))[j]? = some c → (decR w c live).1 ≠ 0) : findR w live tries = some c := by
 have hf := firstC_at (hit := hitF w live tries) (k := 0) hc (by simp [hitF, he]) (fun i hi c hc => by
  have := h i hi c hc
  simp only [hitF, Nat.zero_add, Bool.or_eq_false_iff, decide_eq_false_iff_not]
  exact ⟨by omega, this⟩)
 unfold findR
 rw [hf, Nat.zero_add]
 simp only []
 rw [if_neg (by omega)]
end
theorem ltr_win {l : List In4} {x : In4} (hl : ∀ y ∈ l, winB [y] = true) : ∀ y ∈ ltr l x, winB [y] = true := by
 unfold ltr
 split
 ·exact hl
 ·split
  ·rename_i hw
   intro y hy
   rcases List.mem_append.1 hy with h | h
   ·exact hl y h
   ·rw [List.mem_singleton.1 h]; exact hw
  ·exact hl
theorem ltrs_win : ∀ {xs l : List In4}, (∀ y ∈ l, winB [y] = true) → ∀ y ∈ ltrs l xs, winB [y] = true
 | [], _, hl => hl
 | x :: xs, l, hl => by
  show ∀ y ∈ ltrs (ltr l x) xs, winB [y] = true
  exact ltrs_win (ltr_win hl)
theorem letters_win {w : List In4} {nums : List Nat} : ∀ y ∈ lettersL w nums, plainW y = true := by
 intro y hy
 have := ltrs_win (ltrs_win (ltrs_win (l := []) (by simp))) y hy
 simpa [winB] using this
theorem cand_win {w L c : List In4} (hL : ∀ y ∈ L, plainW y = true) (hc : c ∈ candL w L) (hw : w.length ≤ 32) : winB c = true := by
 have h1 := cand_short hc
 have h2 := cand_mem hc
 simp only [winB, Bool.and_eq_true, decide_eq_true_eq, List.all_eq_true]
 exact ⟨by omega, fun x hx => hL x (h2 x hx)⟩
theorem ltr_mono {l : List In4} {x y : In4} (h : y ∈ l) : y ∈ ltr l x := by
 unfold ltr
 split
 ·exact h
 ·split
  ·exact List.mem_append.2 (.inl h)
  ·exact h
theorem ltrs_mono : ∀ {xs l : List In4} {y : In4}, y ∈ l → y ∈ ltrs l xs
 | [], _, _, h => h
 | x :: xs, l, y, h => by
  show y ∈ ltrs (ltr l x) xs
  exact ltrs_mono (ltr_mono h)
theorem ltrs_in : ∀ {xs l : List In4} {y : In4}, y ∈ xs → winB [y] = true → y ∈ ltrs l xs
 | [], _, _, h, _ => by cases h
 | x :: xs, l, y, h, hw => by
  show y ∈ ltrs (ltr l x) xs
  rcases List.mem_cons.1 h with rfl | h
  ·refine ltrs_mono ?_
   unfold ltr
   split
   ·assumption
   ·simp [hw]
  ·exact ltrs_in h hw
theorem win_ld {v : Nat} (hv : v < 4294967296) : winB [⟨0, 0, 0, v⟩] = true := by
 have e : winB [⟨0, 0, 0, v⟩] = plainW ⟨0, 0, 0, v⟩ := by simp [winB]
 rw [e]
 simp [plainW, goesOn, rightI, ruleB, isBr, isEnd, shapeOf, shapeRows]
theorem letters_ld {w : List In4} {nums : List Nat} {v : Nat} (h : v ∈ nums) (hv : v < 4294967296) : (⟨0, 0, 0, v⟩ : In4) ∈ lettersL w nums := by
 refine ltrs_in ?_ (win_ld hv)
 rw [List.mem_flatMap]
 exact ⟨v, h, by simp [lops, ops6]⟩
theorem told_end {w : List In4} {a : Nat} (hk : ∀ x ∈ w, x.k < 4294967296) (hw : winB w = true) (ha : a = 0 ∨ a = 4294967295) (h : (runW Da0 w ⟨a, 0, zeros 16⟩).2 = w.length) : (runW Da0 w ⟨a, 0, zeros 16⟩).1.a ∈ toldN w := by
 have hs : (⟨a, 0, zeros 16⟩ : St).ok := ⟨show a < 4294967296 by omega, show (0 : Nat) < 4294967296 by decide, by simp, fun w hw => by
  simp only [zeros, List.mem_replicate] at hw
  omega⟩
 have V1 := win_vals Inv.nil hs da0_ok hk hw
 have d1 := (V1.done h).val 0 (by omega)
 have hasg : asgL ⟨a, 0, zeros 16⟩ Da0 = a :: zeros 33 := by
  have : wordsD Da0 = zeros 16 := by decide +kernel
  simp only [asgL, this]; rfl
 rw [hasg] at d1
 have hp : (pt (runW Da0 w ⟨a, 0, zeros 16⟩).1).getD 0 0 = (runW Da0 w ⟨a, 0, zeros 16⟩).1.a := rfl
 rw [hp] at d1
 simp only [toldN, List.mem_append, Option.mem_toList, Option.mem_def]
 rcases ha with rfl | rfl
 ·exact .inr (.inl d1.2)
 ·exact .inr (.inr d1.2)
end Go.Ev
/- The examples of layer 19; the laws SearchSound, SearchMore. -/
namespace Go.Ev
open Go Go.RowKit
variable {G : Tbl}
set_option maxRecDepth 10000
set_option maxHeartbeats 4000000
set_option linter.unusedSimpArgs false
set_option linter.unusedVariables false
theorem dec_same {v w : List In4} {live : Nat} (hv : winB v = true) (hw : winB w = true) : decide ((decR v w live).1 = 0) = sameB (winV [] v).p (winV (winV [] v).L w).p (winV [] v).st (winV (winV [] v).L w).st live := by
 rcases dec_tells (live := live) hv hw with ⟨e, h⟩ | ⟨r, e, _, _, h⟩ | ⟨e, _, h⟩
 ·rw [e, h]; rfl
 ·rw [e, h]; rfl
 ·rw [e, h]; rfl
def ex5 : List In4 := [⟨2, 0, 0, 0⟩, ⟨96, 0, 0, 0⟩]
def sA (a : Nat) : St := ⟨a, 0, zeros 16⟩
theorem sA_ok {a : Nat} (h : a < 4294967296) : (sA a).ok := ⟨h, show (0 : Nat) < 4294967296 by decide, by simp [sA], fun w hw => by
 simp only [sA, zeros, List.mem_replicate] at hw
 omega⟩
theorem cand18 : (candL ex1 (lettersW ex1))[17]? = some ex2 := by kernel_rfl
theorem apart18 : ((candL ex1 (lettersW ex1)).take 17).all (fun c => diffR ex1 c 1 (sA 0) Da0 || diffR ex1 c 1 (sA 1) Da0) = true := by kernel_rfl
theorem same5 : sameB (winV [] ex5).p (winV (winV [] ex5).L []).p (winV [] ex5).st (winV (winV [] ex5).L []).st 1 = true := by kernel_rfl
theorem ex1_k : ∀ x ∈ ex1, x.k < 4294967296 := by decide
theorem ex1_w : winB ex1 = true := by decide +kernel
theorem ex5_k : ∀ x ∈ ex5, x.k < 4294967296 := by decide
theorem ex5_w : winB ex5 = true := by decide +kernel
theorem find_ex1 : findR ex1 1 100 = some ex2 := by
 refine fnd_at cand18 (by decide) ?_ fun j hj c hc h0 => ?_
 ·have := dec_same (v := ex1) (w := ex2) (live := 1) ex1_w (by decide +kernel)
  rw [ex12] at this
  simpa using this
 ·have hm : c ∈ (candL ex1 (lettersW ex1)).take 17 := List.mem_of_getElem? (i := j) (by rw [List.getElem?_take, if_pos hj]; exact hc)
  have hcm := List.mem_of_getElem? hc
  have hcw := cand_win letters_win hcm (by decide)
  have hck : ∀ x ∈ c, x.k < 4294967296 := fun x hx => lettersW_k ex1_k ex1_w x (cand_mem hcm x hx)
  have hs := dec_same (v := ex1) (w := c) (live := 1) ex1_w hcw
  rw [h0, decide_eq_true rfl] at hs
  have d0 := same_diff (s := sA 0) (d := Da0) ex1_k hck (sA_ok (by decide)) da0_ok ex1_w hcw hs.symm
  have d1 := same_diff (s := sA 1) (d := Da0) ex1_k hck (sA_ok (by decide)) da0_ok ex1_w hcw hs.symm
  have := List.all_eq_true.1 apart18 c hm
  rw [d0, d1] at this
  cases this
theorem find_ex5 : findR ex5 1 1 = some [] := by
 refine fnd_at (k := 0) (cand0 (by decide)) (by decide) ?_ fun j hj => by omega
 have := dec_same (v := ex5) (w := []) (live := 1) ex5_w (by decide +kernel)
 rw [same5] at this
 simpa using this
theorem knows19_ok [HasWd G] [HasNeg G] [HasIns G] [HasCheck G] [HasData G] [HasWith G] [HasStep G] [HasWRight G] [HasWinRun G] [HasWinAsg G] [HasWinState G] [HasWinOf G] [HasAffApart G] [HasAffine G] [hBA : HasBitsA G] [HasSymNew G] [HasSym G] [HasSymEval G] [HasSymApart G] [HasDecDf G] [HasDec G] [HasSrcN G] [HasSrcL G] [HasSrcC G] [HasSrcF G] [HasL19k G]
  (p1 : FP G 148 [.str [97, 100, 100, 32, 48, 120, 49, 10, 97, 100, 100, 32, 48, 120, 50, 10]] (.tup [FL ex1, .int .i64 0, .int .i64 0]))
  (p2 : FP G 148 [.str [115, 116, 32, 48, 120, 48, 10, 109, 101, 109, 32, 48, 120, 48, 10]] (.tup [FL ex5, .int .i64 0, .int .i64 0])) : FP G 334 [] (.bool true) := by
 refine FP_of HasL19k.h_hurdlelaw19_knows (Nat.le_of_ble_eq_true rfl) ?_
 have f1 := Find_ok (G := G) ex1 1 100 (by decide) ex1_k ex1_w (by decide)
 have f2 := Find_ok (G := G) ex5 1 1 (by decide) ex5_k ex5_w (by decide)
 rw [find_ex1] at f1
 rw [find_ex5] at f2
 have hae := aeq4 (⟨4, 0, 0, 3⟩ : In4) ⟨4, 0, 0, 3⟩
 simp only [decide_true, In4.cs] at hae
 simp only [FL, Option.getD_some, Option.isSome_some] at f1 f2 p1 p2
 have hex2 : IL ex2 = [[.int .i64 4, .int .i64 0, .int .i64 0, .int .u32 3]] := rfl
 rw [hex2] at f1
 have l1 : (IL ex1).length = 2 := rfl
 simp
 refine callP_of p1 ?_
 simp
 refine callP_of p2 ?_
 simp
 refine callP_of f1 ?_
 simp [keep_cl]
 refine callP_of f2 ?_
 simp [keep_cl, show ex1.length = 2 from rfl]
end Go.Ev
