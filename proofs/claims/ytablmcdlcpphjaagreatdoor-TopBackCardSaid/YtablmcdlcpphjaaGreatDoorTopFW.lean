/- A reader of words: contracts. -/
import Derived.Test.YtablmcdlcpphjaaGreatDoorBitsFW
import Derived.Test.YtablmcdlcpphjaaGreatDoorEvXW
import Derived.Test.YtablmcdlcpphjaaGreatDoorEvNW
import Derived.Test.YtablmcdlcpphjaaGreatDoorEvInsCW
set_option linter.unusedVariables false
set_option linter.unusedSimpArgs false
namespace Go.Ev
open Go Go.RowKit
variable {G : Tbl}
set_option maxRecDepth 10000
set_option maxHeartbeats 8000000
set_option linter.unusedSimpArgs false
set_option linter.unusedVariables false
def rdC (s : List UInt8) (e d : Bool) : Blk := .cells [.str s, .bool e, .bool d]
def rdSet (H : Heap) (b : Nat) (s : List UInt8) (e d : Bool) : Heap := H.set b (some (rdC s e d))
structure Rdr (H : Heap) (b : Nat) (s : List UInt8) (e d : Bool) : Prop where
 hb : H[b]? = some (some (rdC s e d))
 shut : HShut H
section
variable {H : Heap} {b : Nat} {s s' : List UInt8} {e e' d d' : Bool}
theorem Rdr.lb (h : Rdr H b s e d) : b < H.length := (List.getElem?_eq_some_iff.1 h.hb).1
theorem Rdr.hb' (h : Rdr H b s e d) : H[b]? = some (some (.cells [.str s, .bool e, .bool d])) := h.hb
@[simp] theorem rdSet_len (H : Heap) (b : Nat) (s : List UInt8) (e d : Bool) : (rdSet H b s e d).length = H.length := by simp [rdSet]
theorem rdSet_shut (h : HShut H) (s : List UInt8) (e d : Bool) : HShut (rdSet H b s e d) := by
 intro n hn
 rw [rdSet_len] at hn
 unfold rdSet
 rw [map_set', h n hn]
 simp [rdC, Blk.cl, clL, V.cl]
theorem Rdr.set (h : Rdr H b s e d) (s' : List UInt8) (e' d' : Bool) : Rdr (rdSet H b s' e' d') b s' e' d' := ⟨by rw [rdSet, List.getElem?_set_self h.lb], rdSet_shut h.shut _ _ _⟩
theorem rdSet_rdSet : rdSet (rdSet H b s e d) b s' e' d' = rdSet H b s' e' d' := by simp [rdSet]
theorem rdSet_app (h : b < H.length) (R : Heap) : rdSet (H ++ R) b s e d = rdSet H b s e d ++ R := by rw [rdSet, rdSet, List.set_append_left _ _ h]
theorem HShut.appT (h : HShut H) {R : Heap} (hr : ∀ m, H.length + R.length ≤ m → R.map (Option.map (Blk.cl m)) = R) : HShut (H ++ R) := by
 intro m hm
 rw [List.length_append] at hm
 rw [List.map_append, h m (by omega), hr m hm]
theorem siter_shut (h : HShut H) (S : List UInt8) (i : Nat) : trunc (H.length + 1) (H ++ [some (.siter S i)]) = H ++ [some (.siter S i)] := by
 have := (h.app (r := [some (.siter S i)]) (fun n => by simp [Blk.cl])).self
 simpa using this
theorem must_ok [HasTopR G] (h : Rdr H b s e d) : SF G 464 [.ptr b 0, .int .i64 0] H (.tup []) H := by
 refine SF_of HasTopR.h_policy_reader_must (Nat.le_of_ble_eq_true rfl) ?_
 have hb := h.hb'
 have hs : H.set b (some (.cells [.str s, .bool e, .bool d])) = H := List.ext_getElem? fun i => by
  rw [List.getElem?_set]
  split
  ·rename_i he; subst he; rw [if_pos h.lb, h.hb]; rfl
  ·rfl
 have hself := h.shut.self
 cases d <;> simp [hb, hs, hself]
theorem word_ok [HasTopR G] (w : List UInt8) (hw : wordy w) (rest : List UInt8) (h : Rdr H b (w ++ 32 :: rest) false d) (hl : w.length + 1 + rest.length < 4611686018427387904) : SF G 463 [.ptr b 0] H (.str w) (rdSet H b rest false d) := by
 refine SF_of HasTopR.h_policy_reader_word (Nat.le_of_ble_eq_true rfl) ?_
 obtain ⟨S, hS⟩ : ∃ S, S = w ++ 32 :: rest := ⟨_, rfl⟩
 rw [← hS] at h
 have hSl : S.length = w.length + 1 + rest.length := by rw [hS]; simp; omega
 have hSi : ∀ i, i < w.length → S[i]? = w[i]? := fun i hi => by rw [hS, List.getElem?_append_left hi]
 have hSn : S[w.length]? = some 32 := by rw [hS]; simp
 have htk : S.take w.length = w := by rw [hS]; simp
 have hdr : S.drop (w.length + 1) = rest := by rw [hS, ← List.drop_drop]; simp
 have hb := h.hb'
 have lb := h.lb
 have g0 : ∀ x, (H ++ [x])[b]? = some (some (.cells [.str S, .bool false, .bool d])) := fun x => by rw [List.getElem?_append_left lb]; exact hb
 have gl : ∀ x : Option Blk, (H ++ [x])[H.length]? = some x := fun x => by rw [List.getElem?_append_right (by omega)]; simp
 have s0 : ∀ x y, (H ++ [x]).set b y = H.set b y ++ [x] := fun x y => by rw [List.set_append_left _ _ lb]
 have tr := siter_shut h.shut S
 have b1 : (b < H.length + 1) = True := eq_true (by omega)
 have bk := fun r => (rdSet_shut (b := b) h.shut rest false d).back r
 simp only [rdSet_len] at bk
 simp only [rdSet, rdC] at bk ⊢
 simp [hb, g0, keep_cl]
 refine W_up w.length (fun i => [(0, .ptr b 0), (17, .ptr H.length 0)]) (fun i => H ++ [some (.siter S i)]) (fun _ => True) ?_ ?_
 ·simp [keep_cl, tr, b1]
 intro i hi _
 rcases Nat.eq_or_lt_of_le hi with hi | hlt
 ·subst hi
  have hu := utf8_lt hSn (by decide)
  have h1 : w.length < S.length := by omega
  have e1 : ((w.length : Int) ≤ (S.length : Int)) = True := eq_true (by omega)
  have e2 : (((w.length : Int) + 1) ≤ (S.length : Int)) = True := eq_true (by omega)
  have e3 : addI .i64 (w.length : Int) 1 = ((w.length + 1 : Nat) : Int) := by rw [addI64] <;> omega
  have e4 : rest.take (S.length - (w.length + 1)) = rest := List.take_of_length_le (by omega)
  have e5 : (((w.length + 1 : Nat) : Int) ≤ (S.length : Int)) = True := eq_true (by omega)
  simp (disch := omega) [h1, hu, e1, e2, e3, e4, e5, htk, hdr, g0, gl, s0, keep_cl, bk, -Int.natCast_add]
 ·obtain ⟨c, g1, g2, g3, _⟩ := wordy_at hw hlt
  rw [← hSi i hlt] at g1
  have hu := utf8_lt g1 g2
  have h1 : i < S.length := by omega
  have hc : ((c.toNat : Int) == 32) = false := beqN (b := 32) g3
  simp (disch := omega) [h1, hu, hc, gl, keep_cl, tr, b1, hlt]
theorem word_last [HasTopR G] (w : List UInt8) (hw : wordy w) (h : Rdr H b w false d) : SF G 463 [.ptr b 0] H (.str w) (rdSet H b w true d) := by
 refine SF_of HasTopR.h_policy_reader_word (Nat.le_of_ble_eq_true rfl) ?_
 have hb := h.hb'
 have lb := h.lb
 have g0 : ∀ x, (H ++ [x])[b]? = some (some (.cells [.str w, .bool false, .bool d])) := fun x => by rw [List.getElem?_append_left lb]; exact hb
 have gl : ∀ x : Option Blk, (H ++ [x])[H.length]? = some x := fun x => by rw [List.getElem?_append_right (by omega)]; simp
 have s0 : ∀ x y, (H ++ [x]).set b y = H.set b y ++ [x] := fun x y => by rw [List.set_append_left _ _ lb]
 have g2 : ∀ x y, (H.set b y ++ [x])[b]? = some y := fun x y => by rw [List.getElem?_append_left (by simpa using lb), List.getElem?_set_self lb]
 have tr := siter_shut h.shut w
 have b1 : (b < H.length + 1) = True := eq_true (by omega)
 have bk := fun r => (rdSet_shut (b := b) h.shut w true d).back r
 simp only [rdSet_len] at bk
 simp only [rdSet, rdC] at bk ⊢
 simp [hb, g0, keep_cl]
 refine W_up w.length (fun i => [(0, .ptr b 0), (17, .ptr H.length 0)]) (fun i => H ++ [some (.siter w i)]) (fun _ => True) ?_ ?_
 ·simp [keep_cl, tr, b1]
 intro i hi _
 rcases Nat.eq_or_lt_of_le hi with hi | hlt
 ·subst hi
  simp (disch := omega) [g0, gl, s0, g2, keep_cl, bk]
 ·obtain ⟨c, g1, g2, g3, _⟩ := wordy_at hw hlt
  have hu := utf8_lt g1 g2
  have hc : ((c.toNat : Int) == 32) = false := beqN (b := 32) g3
  simp (disch := omega) [hlt, hu, hc, gl, keep_cl, tr, b1]
end
end Go.Ev
/- A reader's conditions, and a rule: contracts. -/
namespace Go.Ev
open Go Go.RowKit
variable {G : Tbl}
set_option maxRecDepth 10000
set_option maxHeartbeats 8000000
set_option linter.unusedSimpArgs false
set_option linter.unusedVariables false
def rdS (l : List UInt8) (ws : List (List UInt8)) : List UInt8 := if ws = [] then l else joinW ws
def rdE (ws : List (List UInt8)) : Bool := decide (ws = [])
section
variable {H : Heap} {b : Nat} {l l' : List UInt8} {ws : List (List UInt8)} {d : Bool}
theorem Rdr.app {s : List UInt8} {e : Bool} (h : Rdr H b s e d) {R : Heap} (hr : ∀ n, R.map (Option.map (Blk.cl n)) = R) : Rdr (H ++ R) b s e d :=
 ⟨by rw [List.getElem?_append_left h.lb]; exact h.hb, h.shut.app hr⟩
theorem wordW_ok [HasTopR G] (w : List UInt8) (hw : wordy w) (h : Rdr H b (rdS l (w :: ws)) false d) (hl : (joinW (w :: ws)).length < 4611686018427387904) : SF G 463 [.ptr b 0] H (.str w) (rdSet H b (rdS w ws) (rdE ws) d) := by
 have e1 : rdS l (w :: ws) = joinW (w :: ws) := rfl
 rw [e1] at h
 cases ws with
 | nil => exact word_last w hw h
 | cons v r =>
  rw [joinW_cons w (by simp)] at h hl
  have := word_ok (G := G) w hw (joinW (v :: r)) h (by simpa [Nat.add_assoc, Nat.add_comm, Nat.add_left_comm] using hl)
  simpa [rdS, rdE] using this
theorem joinW_tail_len (w : List UInt8) (ws : List (List UInt8)) : (joinW ws).length ≤ (joinW (w :: ws)).length := by
 cases ws with
 | nil => simp [joinW]
 | cons v r => rw [joinW_cons w (by simp)]; simp; omega
theorem condition_ok [HasParse G] [HasCondN G] [HasTopC G] [HasTopR G] (c : Cd) (hr : c.right = true) (ho : c.ok) (h : Rdr H b (rdS l (condW4 c ++ ws)) false d) (hl : (joinW (condW4 c ++ ws)).length < 4611686018427387904) :
  SF G 465 [.ptr b 0] H (.agg c.cs) (rdSet H b (rdS (textN c.val) ws) (rdE ws) d) := by
 refine SF_of HasTopR.h_policy_reader_condition (Nat.le_of_ble_eq_true rfl) ?_
 have hwy := cond_wordy hr ho
 have l1 := textN_len c.mask
 have l2 := textN_len c.val
 have l3 := cmpW_len c.cmp
 have wP := CondParse_ok (G := G) c hr ho
 rw [condT_eq] at wP
 obtain ⟨A, hA⟩ : ∃ A : List UInt8, A = [97, UInt8.ofNat (48 + c.arg.toNat)] := ⟨_, rfl⟩
 have l0 : A.length = 2 := by rw [hA]; rfl
 have hC : condW4 c = [A, textN c.mask, cmpW c.cmp, textN c.val] := by rw [hA]; rfl
 rw [← hA] at wP
 rw [hC] at h hl hwy
 generalize textN c.mask = T1 at *
 generalize textN c.val = T2 at *
 generalize cmpW c.cmp = C at *
 simp only [List.cons_append, List.nil_append] at h hl
 have hl1 := joinW_tail_len A (T1 :: C :: T2 :: ws)
 have hl2 := joinW_tail_len T1 (C :: T2 :: ws)
 have hl3 := joinW_tail_len C (T2 :: ws)
 obtain ⟨Z, hZ⟩ : ∃ Z : Heap, Z = [some (.cells [.int .i64 0, .int .i64 0, .int .u64 0, .int .u64 0])] := ⟨_, rfl⟩
 have hZc : ∀ n, Z.map (Option.map (Blk.cl n)) = Z := fun n => by rw [hZ]; simp [Blk.cl, clL, V.cl]
 have h0 := h.app (R := Z) hZc
 have q1 := wordW_ok (G := G) A (hwy A (by simp)) h0 hl
 have h1 := h0.set (rdS A (T1 :: C :: T2 :: ws)) (rdE (T1 :: C :: T2 :: ws)) d
 have q2 := wordW_ok (G := G) T1 (hwy T1 (by simp)) h1 (by omega)
 have h2 := h1.set (rdS T1 (C :: T2 :: ws)) (rdE (C :: T2 :: ws)) d
 have q3 := wordW_ok (G := G) C (hwy C (by simp)) h2 (by omega)
 have h3 := h2.set (rdS C (T2 :: ws)) (rdE (T2 :: ws)) d
 have q4 := wordW_ok (G := G) T2 (hwy T2 (by simp)) h3 (by omega)
 have h4 := h3.set (rdS T2 ws) (rdE ws) d
 have h5 := (h.set (rdS T2 ws) (rdE ws) d).app (R := Z ++ [some (.cells c.cs)]) (fun n => by rw [List.map_append, hZc]; simp [Blk.cl, clL, V.cl, Cd.cs])
 have lb := h.lb
 have ra : ∀ (s : List UInt8) (e d : Bool) (s' : List UInt8) (e' d' : Bool) (R : Heap), rdSet (rdSet H b s e d ++ R) b s' e' d' = rdSet H b s' e' d' ++ R := fun s e d s' e' d' R => by rw [rdSet_app (by simpa using lb), rdSet_rdSet]
 simp only [rdSet_rdSet, rdSet_app lb, ra] at q1 q2 q3 q4
 have q5 := must_ok (G := G) h5
 have bk := fun r => (rdSet_shut (b := b) h.shut (rdS T2 ws) (rdE ws) d).back r
 simp only [rdSet_len] at bk
 subst hZ
 have gk : ∀ (s : List UInt8) (e d : Bool) (r : Heap) (k : Nat), (rdSet H b s e d ++ r)[H.length + k]? = r[k]? := fun s e d r k => by rw [List.getElem?_append_right (by simp), rdSet_len]; congr 1; omega
 have gk0 : ∀ (s : List UInt8) (e d : Bool) (r : Heap), (rdSet H b s e d ++ r)[H.length]? = r[0]? := fun s e d r => gk s e d r 0
 have sk : ∀ (s : List UInt8) (e d : Bool) (r : Heap) (k : Nat) (x : Option Blk), (rdSet H b s e d ++ r).set (H.length + k) x = rdSet H b s e d ++ r.set k x := fun s e d r k x => by rw [List.set_append_right _ _ (by simp), rdSet_len]; congr 1; congr 1; omega
 have sk0 : ∀ (s : List UInt8) (e d : Bool) (r : Heap) (x : Option Blk), (rdSet H b s e d ++ r).set H.length x = rdSet H b s e d ++ r.set 0 x := fun s e d r x => sk s e d r 0 x
 have b2 : ∀ n : Nat, n ≤ 400 → (n ≤ 9223372036854775807) = True := fun n h => eq_true (by omega)
 simp only [Cd.cs, List.cons_append, List.nil_append] at wP q1 q2 q3 q4 q5 ⊢
 simp
 refine callSF_of q1 ?_
 simp (disch := (first | omega | (simp; omega))) [b2]
 refine callSF_of q2 ?_
 simp (disch := (first | omega | (simp; omega))) [b2]
 refine callSF_of q3 ?_
 simp (disch := (first | omega | (simp; omega))) [b2]
 refine callSF_of q4 ?_
 simp (disch := (first | omega | (simp; omega))) [b2]
 refine callP_of wP ?_
 simp [gk, gk0, sk, sk0]
 refine callSF_of q5 ?_
 simp [gk, gk0, sk, sk0, bk]
end
end Go.Ev
/- A rule read off a line: contract. -/
namespace Go.Ev
open Go Go.RowKit
variable {G : Tbl}
set_option maxRecDepth 10000
set_option maxHeartbeats 16000000
set_option linter.unusedSimpArgs false
set_option linter.unusedVariables false
theorem callLF_of {rs : List Nat} {f : Nat} {args : List V} {r : V} {H H' : Heap} {base : Nat} {d : Option Nat} {os : List SOper} {K : List Kt} {e : Env} {Q : Ex → Env → Heap → Prop} (h : SF G f args H r H') (hl : Leaves e rs H H')
  (hr : WO G base os K (e.put d r) H' Q) : callL G rs f args base d os K e H Q := by
 obtain ⟨r1, H1, hb, hr1, ht⟩ := h
 exact ⟨r1, H1, hb, by rw [ht]; exact hl, by rw [hr1, ht]; exact hr⟩
def lastA (A : List UInt8) (l : List Cd) : Nat → List UInt8
 | 0 => A
 | i + 1 => match l[i]? with
  | some c => textN c.val
  | none => A
theorem joinW_app_len : ∀ (a b : List (List UInt8)), (joinW b).length ≤ (joinW (a ++ b)).length
 | [], b => Nat.le_refl _
 | w :: a, b => Nat.le_trans (joinW_app_len a b) (joinW_tail_len w (a ++ b))
section
variable {H : Heap} {b : Nat} {l : List UInt8}
theorem rest_ok [HasParse G] [HasName G] [HasCondN G] [HasTopN G] [HasTopC G] [HasTopR G] (r : Ru) (hm : mayB r = true) (ho : r.okk)
  (h : Rdr H b (rdS l (textM machM r.arch :: textM (callN r.arch) r.nr :: actT r.act :: condsW 0 r.conds)) false false)
  (hl : (joinW (textM machM r.arch :: textM (callN r.arch) r.nr :: actT r.act :: condsW 0 r.conds)).length < 4611686018427387904) :
  ∃ s, SF G 466 [.ptr b 0] H (.agg r.cs) (rdSet H b s true false) := by
 have hm' := hm
 simp only [mayB, Bool.and_eq_true, decide_eq_true_eq, List.all_eq_true] at hm'
 obtain ⟨⟨hc, hb4⟩, h4⟩ := hm'
 obtain ⟨hoc, hoa, hon, hov⟩ := ho
 have wM := textM_wordy machM_good (v := r.arch) (by omega)
 have wC := textM_wordy (callN_good r.arch) (v := r.nr) (by omega)
 have wA := actT_wordy hov
 have pM := ReadMachine_ok (G := G) r.arch hoa
 have pC := ReadCall_ok (G := G) r.arch r.nr hon
 have pA := ReadAction_ok (G := G) r.act hb4
 generalize textM machM r.arch = M at *
 generalize textM (callN r.arch) r.nr = C at *
 generalize actT r.act = A at *
 obtain ⟨W, hW⟩ : ∃ W : Nat → List (List UInt8), ∀ i, W i = condsW i (r.conds.drop i) := ⟨_, fun _ => rfl⟩
 have hW0 : condsW 0 r.conds = W 0 := by rw [hW, List.drop_zero]
 obtain ⟨La, hLa⟩ : ∃ La : Nat → List UInt8, ∀ i, La i = lastA A r.conds i := ⟨_, fun _ => rfl⟩
 have hWs : ∀ i c, r.conds[i]? = some c → W i = jointW i :: (condW4 c ++ W (i + 1)) := by
  intro i c hg
  obtain ⟨hi, he⟩ := List.getElem?_eq_some_iff.1 hg
  rw [hW, hW, List.drop_eq_getElem_cons hi, he]
  rfl
 have hWN : W r.conds.length = [] := by rw [hW, List.drop_length]; rfl
 have hLs : ∀ i c, r.conds[i]? = some c → La (i + 1) = textN c.val := fun i c hg => by rw [hLa]; simp [lastA, hg]
 have hWl : ∀ i, i ≤ r.conds.length → (joinW (W i)).length < 4611686018427387904 := by
  have key : ∀ i, i ≤ r.conds.length → (joinW (W i)).length ≤ (joinW (W 0)).length := by
   intro i
   induction i with
   | zero => intro _; exact Nat.le_refl _
   | succ i ih =>
    intro hi
    have hg : r.conds[i]? = some r.conds[i] := List.getElem?_eq_getElem (by omega)
    have := ih (by omega)
    rw [hWs i _ hg] at this
    exact Nat.le_trans (joinW_app_len (jointW i :: condW4 r.conds[i]) (W (i + 1))) this
  intro i hi
  have h1 := key i hi
  rw [hW0] at hl
  have h2 := joinW_app_len [M, C, A] (W 0)
  simp only [List.cons_append, List.nil_append] at h2
  omega
 rw [hW0] at h hl
 have hl1 := joinW_tail_len M (C :: A :: W 0)
 have hl2 := joinW_tail_len C (A :: W 0)
 refine ⟨La r.conds.length, SF_of HasTopR.h_policy_reader_rest (Nat.le_of_ble_eq_true rfl) ?_⟩
 have lb := h.lb
 have shut := h.shut
 have ra : ∀ (s : List UInt8) (e d : Bool) (s' : List UInt8) (e' d' : Bool) (R : Heap), rdSet (rdSet H b s e d ++ R) b s' e' d' = rdSet H b s' e' d' ++ R := fun s e d s' e' d' R => by rw [rdSet_app (by simpa using lb), rdSet_rdSet]
 -- words, whatever lies behind
 have word : ∀ (R : Heap), (∀ n, H.length + R.length ≤ n → R.map (Option.map (Blk.cl n)) = R) → ∀ (s : List UInt8) (w : List UInt8) (ws : List (List UInt8)), wordy w → (joinW (w :: ws)).length < 4611686018427387904 → ∀ l,
   SF G 463 [.ptr b 0] (rdSet H b (rdS l (w :: ws)) (rdE (w :: ws)) false ++ R) (.str w) (rdSet H b (rdS w ws) (rdE ws) false ++ R) := by
  intro R hR s w ws hw hlen l
  have hs : HShut (rdSet H b (rdS l (w :: ws)) (rdE (w :: ws)) false ++ R) := (rdSet_shut shut _ _ _).appT (R := R) (by rw [rdSet_len]; exact hR)
  have hrd : Rdr (rdSet H b (rdS l (w :: ws)) (rdE (w :: ws)) false ++ R) b (rdS l (w :: ws)) false false := ⟨by rw [List.getElem?_append_left (by simpa using lb)]; exact (h.set _ _ _).hb, hs⟩
  have := wordW_ok (G := G) w hw hrd hlen
  rwa [ra] at this
 have must : ∀ (R : Heap), (∀ n, H.length + R.length ≤ n → R.map (Option.map (Blk.cl n)) = R) → ∀ (s : List UInt8) (e : Bool), SF G 464 [.ptr b 0, .int .i64 0] (rdSet H b s e false ++ R) (.tup []) (rdSet H b s e false ++ R) := by
  intro R hR s e
  have hs : HShut (rdSet H b s e false ++ R) := (rdSet_shut shut _ _ _).appT (R := R) (by rw [rdSet_len]; exact hR)
  exact must_ok (G := G) (H := rdSet H b s e false ++ R) (s := s) (e := e) (d := false) ⟨by rw [List.getElem?_append_left (by simpa using lb)]; exact (h.set _ _ _).hb, hs⟩
 have hset : rdSet H b (rdS l (M :: C :: A :: W 0)) (rdE (M :: C :: A :: W 0)) false = H := List.ext_getElem? fun i => by
  unfold rdSet
  rw [List.getElem?_set]
  split
  ·rename_i he; first | (rw [if_pos lb, ← he, h.hb]; rfl) | (rw [← he, h.hb]; rfl)
  ·rfl
 have gk : ∀ (s : List UInt8) (e d : Bool) (R : Heap) (k : Nat), (rdSet H b s e d ++ R)[H.length + k]? = R[k]? := fun s e d R k => by rw [List.getElem?_append_right (by simp), rdSet_len]; congr 1; omega
 have gk0 : ∀ (s : List UInt8) (e d : Bool) (R : Heap), (rdSet H b s e d ++ R)[H.length]? = R[0]? := fun s e d R => gk s e d R 0
 have sk : ∀ (s : List UInt8) (e d : Bool) (R : Heap) (k : Nat) (x : Option Blk), (rdSet H b s e d ++ R).set (H.length + k) x = rdSet H b s e d ++ R.set k x := fun s e d R k x => by rw [List.set_append_right _ _ (by simp), rdSet_len]; congr 1; congr 1; omega
 have sk0 : ∀ (s : List UInt8) (e d : Bool) (R : Heap) (x : Option Blk), (rdSet H b s e d ++ R).set H.length x = rdSet H b s e d ++ R.set 0 x := fun s e d R x => sk s e d R 0 x
 have gb : ∀ (s : List UInt8) (e d : Bool) (R : Heap), (rdSet H b s e d ++ R)[b]? = some (some (.cells [.str s, .bool e, .bool d])) := fun s e d R => by rw [List.getElem?_append_left (by simpa using lb)]; exact (h.set s e d).hb
 have sb : ∀ (s : List UInt8) (e d : Bool) (s' : List UInt8) (e' d' : Bool) (R : Heap), (rdSet H b s e d ++ R).set b (some (.cells [.str s', .bool e', .bool d'])) = rdSet H b s' e' d' ++ R := fun s e d s' e' d' R => ra s e d s' e' d' R
 have bk : ∀ (s : List UInt8) (e d : Bool) (R : Heap), trunc H.length (rdSet H b s e d ++ R) = rdSet H b s e d := fun s e d R => by have := (rdSet_shut (b := b) shut s e d).back R; rwa [rdSet_len] at this
 have tr : ∀ (s : List UInt8) (e d : Bool) (R : Heap) (n : Nat), n = H.length + R.length → (∀ n, H.length + R.length ≤ n → R.map (Option.map (Blk.cl n)) = R) → trunc n (rdSet H b s e d ++ R) = rdSet H b s e d ++ R := fun s e d R n hn hR => by
  subst hn
  have := ((rdSet_shut (b := b) shut s e d).appT (R := R) (by rw [rdSet_len]; exact hR)).self
  simpa using this
 obtain ⟨C0, hC0⟩ : ∃ C0 : Option Blk, C0 = some (.cells [.int .u32 0, .int .u32 0, .vs [] .full, .int .u32 0]) := ⟨_, rfl⟩
 have R0 : ∀ (a n v : Int) (m : Nat), ([C0, some (.cells [.int .u32 a, .int .u32 n, .vs [] .full, .int .u32 v])] : Heap).map (Option.map (Blk.cl m)) = [C0, some (.cells [.int .u32 a, .int .u32 n, .vs [] .full, .int .u32 v])] := fun a n v m => by
  subst hC0; simp [Blk.cl, clL, V.cl, Tk.cl]
 have q1 := word _ (fun m _ => R0 0 0 0 m) [] M (C :: A :: W 0) wM hl l
 rw [hset] at q1
 have m1 := must _ (fun m _ => R0 r.arch 0 0 m) (rdS M (C :: A :: W 0)) (rdE (C :: A :: W 0))
 have q2 := word _ (fun m _ => R0 r.arch 0 0 m) [] C (A :: W 0) wC (by omega) M
 have m2 := must _ (fun m _ => R0 r.arch r.nr 0 m) (rdS C (A :: W 0)) (rdE (A :: W 0))
 have q3 := word _ (fun m _ => R0 r.arch r.nr 0 m) [] A (W 0) wA (by omega) C
 have m3 := must _ (fun m _ => R0 r.arch r.nr r.act m) (rdS A (W 0)) (rdE (W 0))
 subst hC0
 simp
 refine callSF_of q1 ?_
 simp
 refine callP_of pM ?_
 simp [gk, gk0, sk, sk0, keep_cl]
 refine callSF_of m1 ?_
 simp [gk, gk0, sk, sk0, keep_cl]
 refine callLF_of q2 ?_ ?_
 ·intro k hk id hid
  simp at hk
  subst hk
  simp at hid
  subst hid
  rw [gk, gk]
 simp
 refine callP_of pC ?_
 simp [gk, gk0, sk, sk0, keep_cl]
 refine callSF_of m2 ?_
 simp [gk, gk0, sk, sk0, keep_cl]
 refine callSF_of q3 ?_
 simp
 refine callP_of pA ?_
 simp [gk, gk0, sk, sk0, keep_cl]
 refine callSF_of m3 ?_
 simp [gk, gk0, sk, sk0, keep_cl]
 obtain ⟨Z, hZ⟩ : ∃ Z : Nat → Heap, ∀ i, Z i = [some (.cells [.int .u32 0, .int .u32 0, .vs [] .full, .int .u32 0]), some (.cells [.int .u32 r.arch, .int .u32 r.nr, .vs (CL (r.conds.take i)) (.own (H.length + 2)), .int .u32 r.act]), some (.zone i)] := ⟨_, fun _ => rfl⟩
 have hZl : ∀ i, (Z i).length = 3 := fun i => by rw [hZ]; rfl
 have Zcl : ∀ i n, H.length + (Z i).length ≤ n → (Z i).map (Option.map (Blk.cl n)) = Z i := fun i n hn => by
  rw [hZl] at hn
  rw [hZ]
  simp [Blk.cl, clL, V.cl, Tk.cl, show H.length + 2 < n by omega]
 have tz : ∀ s e d i, trunc (H.length + 3) (rdSet H b s e d ++ Z i) = rdSet H b s e d ++ Z i := fun s e d i => tr s e d (Z i) _ (by rw [hZl]) (Zcl i)
 have bZ1 : (b < H.length + 3) = True := eq_true (by omega)
 refine W_up r.conds.length (fun i => [(0, .ptr b 0), (2, .ptr H.length 0), (3, .ptr (H.length + 1) 0), (5, .str (jointW i))]) (fun i => rdSet H b (rdS (La i) (W i)) (rdE (W i)) false ++ Z i) (fun _ => True) ?_ ?_
 ·have t0 := tz (rdS A (W 0)) (rdE (W 0)) false 0
  have hL0 : La 0 = A := by rw [hLa]; rfl
  rw [hZ] at t0
  simp only [List.take_zero, show CL [] = [] from rfl] at t0
  simp [keep_cl, t0, hZ, hL0, jointW, bZ1, show CL [] = [] from rfl]
 intro i hi _
 by_cases hlt : i < r.conds.length
 ·obtain ⟨x, hx⟩ : ∃ x, x = r.conds[i] := ⟨_, rfl⟩
  have hg : r.conds[i]? = some x := by rw [List.getElem?_eq_getElem hlt, hx]
  have hxm := List.mem_of_getElem? hg
  have hWi := hWs i x hg
  have hE1 : rdE (W i) = false := by rw [hWi]; simp [rdE]
  have hE2 : rdE (condW4 x ++ W (i + 1)) = false := by simp [rdE, condW4]
  have hw1 := hWl i (by omega)
  rw [hWi] at hw1
  have hw2 := joinW_tail_len (jointW i) (condW4 x ++ W (i + 1))
  have q := word (Z i) (Zcl i) [] (jointW i) (condW4 x ++ W (i + 1)) (joint_wordy i) hw1 (La i)
  rw [← hWi, hE1, hE2] at q
  have hrd : Rdr (rdSet H b (rdS (jointW i) (condW4 x ++ W (i + 1))) false false ++ (Z i ++ [none])) b (rdS (jointW i) (condW4 x ++ W (i + 1))) false false :=
   ⟨by rw [List.getElem?_append_left (by simpa using lb)]; exact (h.set _ _ _).hb, (rdSet_shut shut _ _ _).appT (R := Z i ++ [none]) (by
    intro m hm
    rw [rdSet_len, List.length_append] at hm
    rw [List.map_append, Zcl i m (by omega)]
    rfl)⟩
  have qc := condition_ok (G := G) x (hc x hxm) (hoc x hxm) hrd (by omega)
  rw [ra, ← hLs i x hg] at qc
  have hj1 : jointW (i + 1) = [97, 110, 100] := by simp [jointW]
  have hby : ((i + 1) * 32 ≤ 140737488355328) = True := eq_true (by omega)
  have hf4 : (∀ f ∈ CL (r.conds.take i), f.length = 4) = True := eq_true (by intro f hf; simp only [CL, List.mem_map] at hf; obtain ⟨y, _, rfl⟩ := hf; rfl)
  have htl : (r.conds.take i).length = i := by rw [List.length_take]; omega
  have hsn : CL (r.conds.take i) ++ [x.cs] = CL (r.conds.take (i + 1)) := by rw [List.take_add_one, hg]; simp [CL]
  have tz1 : trunc (H.length + 3) (rdSet H b (rdS (La (i + 1)) (W (i + 1))) (rdE (W (i + 1))) false ++ (Z (i + 1) ++ [none])) = rdSet H b (rdS (La (i + 1)) (W (i + 1))) (rdE (W (i + 1))) false ++ Z (i + 1) := by
   have := ((rdSet_shut (b := b) shut (rdS (La (i + 1)) (W (i + 1))) (rdE (W (i + 1))) false).appT (R := Z (i + 1)) (by rw [rdSet_len]; exact Zcl (i + 1))).back [none]
   rw [List.length_append, rdSet_len, hZl] at this
   rw [← List.append_assoc]
   exact this
  rw [hZ] at tz1
  simp only [hZ, List.cons_append, List.nil_append] at q qc tz1 ⊢
  simp only [Cd.cs] at qc hsn
  simp [gk, gk0, sk, sk0, gb, sb, hE1, keep_cl]
  refine callSF_of q ?_
  simp [gk, gk0, sk, sk0, gb, sb, hE1, keep_cl]
  refine callLF_of qc ?_ ?_
  ·intro k hk id hid
   simp at hk
   subst hk
   simp at hid
   subst hid
   rw [gk, gk]
  simp (disch := omega) [gk, gk0, sk, sk0, gb, sb, hE1, hby, htl, hsn, hf4, keep_cl, tz1, hj1, bZ1, hlt]
 ·have : i = r.conds.length := by omega
  subst this
  have hEn : rdE (W r.conds.length) = true := by rw [hWN]; rfl
  have hSn : rdS (La r.conds.length) (W r.conds.length) = La r.conds.length := by rw [hWN]; rfl
  have l4 : (4 < (r.conds.length : Int)) = False := eq_false (by omega)
  have hF : (H.length + 2 < H.length) = False := eq_false (by omega)
  simp only [hZ]
  simp [gk, gk0, sk, sk0, gb, sb, hEn, hSn, l4, bk, keep_cl, Ru.cs, hF, Tk.cl]
end
end Go.Ev
/- A policy read from its text: contract. -/
namespace Go.Ev
open Go Go.RowKit
variable {G : Tbl}
set_option maxRecDepth 10000
set_option maxHeartbeats 32000000
set_option linter.unusedSimpArgs false
set_option linter.unusedVariables false
def offL (L : List (List UInt8)) (k : Nat) : Nat := (linesT (L.take k)).length
section
variable {L : List (List UInt8)} {k : Nat} {w : List UInt8}
theorem lines_split (h : L[k]? = some w) : linesT L = linesT (L.take k) ++ (w ++ 10 :: linesT (L.drop (k + 1))) := by
 obtain ⟨hi, he⟩ := List.getElem?_eq_some_iff.1 h
 conv => lhs; rw [← List.take_append_drop k L, linesT_append, List.drop_eq_getElem_cons hi, he]
 simp [linesT]
theorem off_succ (h : L[k]? = some w) : offL L (k + 1) = offL L k + w.length + 1 := by
 rw [offL, List.take_add_one, h, linesT_append]
 simp [offL, linesT]
 omega
theorem off_len (L : List (List UInt8)) : offL L L.length = (linesT L).length := by rw [offL, List.take_length]
theorem line_at (h : L[k]? = some w) {j : Nat} (hj : j < w.length) : (linesT L)[offL L k + j]? = w[j]? := by
 rw [lines_split h, List.getElem?_append_right (by simp [offL]), offL]
 simp only [Nat.add_sub_cancel_left]
 rw [List.getElem?_append_left hj]
theorem line_nl (h : L[k]? = some w) : (linesT L)[offL L k + w.length]? = some 10 := by
 rw [lines_split h, List.getElem?_append_right (by simp [offL]), offL]
 simp
theorem line_slice (h : L[k]? = some w) : ((linesT L).drop (offL L k)).take w.length = w := by
 have : (linesT L).drop (offL L k) = w ++ 10 :: linesT (L.drop (k + 1)) := by
  rw [lines_split h, offL]; simp
 rw [this]
 simp
theorem off_le (h : L[k]? = some w) : offL L k + w.length < (linesT L).length := (List.getElem?_eq_some_iff.1 (line_nl h)).1
end
theorem liney_at {w : List UInt8} (hw : liney w) {i : Nat} (h : i < w.length) : ∃ b, w[i]? = some b ∧ b.toNat < 128 ∧ b.toNat ≠ 10 := by
 have := hw w[i] (List.getElem_mem h)
 exact ⟨w[i], List.getElem?_eq_getElem h, this.2, fun e => this.1 (UInt8.toNat_inj.1 e)⟩
theorem rdS_cons (l w : List UInt8) (ws : List (List UInt8)) : rdS l (w :: ws) = joinW (w :: ws) := by simp [rdS]
theorem onW : wordy [111, 110] := by decide
theorem defW : wordy [100, 101, 102, 97, 117, 108, 116] := by decide
theorem polParse_ok [HasParse G] [HasName G] [HasCondN G] [HasTopN G] [HasTopC G] [HasTopR G] (p : Po) (hr : rightP p = true) (ho : ∀ r ∈ p.rules, r.okk) (hd : p.dflt < 4294967296) (hlen : (polT p).length ≤ 20000) :
  FP G 467 [.str (polT p)] (.tup [.agg p.cs, .int .i64 0, .int .i64 0]) := by
 refine FP_of HasTopR.h_policy_Parse (Nat.le_of_ble_eq_true rfl) ?_
 obtain ⟨h1, h2, h3, h4⟩ := right_parts hr
 obtain ⟨L, hL⟩ : ∃ L, L = polL p := ⟨_, rfl⟩
 obtain ⟨N, hN⟩ : ∃ N, N = p.rules.length := ⟨_, rfl⟩
 have hLl : L.length = N + 1 := by rw [hL, hN]; simp [polL]
 have hLr : ∀ (k : Nat) (r : Ru), p.rules[k]? = some r → L[k]? = some (joinW (ruleW r)) := fun k r hg => by
  have hk := (List.getElem?_eq_some_iff.1 hg).1
  rw [hL, polL, List.getElem?_append_left (by simpa using hk), List.getElem?_map, hg]; rfl
 have hLd : L[N]? = some (joinW (dfltW p.dflt)) := by
  rw [hL, polL, List.getElem?_append_right (by simp [hN])]
  simp [hN]
 have hline : ∀ (k : Nat) (w : List UInt8), L[k]? = some w → liney w := by
  intro k w hk
  have hk' := (List.getElem?_eq_some_iff.1 hk).1
  rcases Nat.lt_or_ge k N with hkn | hkn
  ·have hg : p.rules[k]? = some p.rules[k] := List.getElem?_eq_getElem (by omega)
   have hm := List.getElem_mem (show k < p.rules.length by omega)
   have := hLr k _ hg
   rw [hk] at this
   cases this
   have hm1 := h1 _ hm
   simp only [mayB, Bool.and_eq_true, decide_eq_true_eq, List.all_eq_true] at hm1
   have ho1 := ho _ hm
   exact joinW_liney (rule_wordy (fun c hc => ⟨hm1.1.1 c hc, ho1.1 c hc⟩) ho1.2.1 ho1.2.2.1 ho1.2.2.2)
  ·have : k = N := by omega
   subst this
   rw [hLd] at hk
   cases hk
   refine joinW_liney ?_
   intro w hw
   simp only [dfltW, List.mem_cons, List.not_mem_nil, or_false] at hw
   rcases hw with rfl | rfl
   ·exact defW
   ·exact actT_wordy hd
 obtain ⟨S, hS⟩ : ∃ S, S = polT p := ⟨_, rfl⟩
 have hSL : S = linesT L := by rw [hS, hL]; rfl
 rw [← hS] at hlen ⊢
 obtain ⟨O, hO⟩ : ∃ O : Nat → Nat, ∀ k, O k = offL L k := ⟨_, fun _ => rfl⟩
 have oS : ∀ (k : Nat) (w : List UInt8), L[k]? = some w → O (k + 1) = O k + w.length + 1 := fun k w h => by rw [hO, hO]; exact off_succ h
 have oL : ∀ (k : Nat) (w : List UInt8), L[k]? = some w → O k + w.length < S.length := fun k w h => by rw [hO, hSL]; exact off_le h
 have oE : O (N + 1) = S.length := by rw [hO, ← hLl, off_len, hSL]
 have o0 : O 0 = 0 := by rw [hO]; rfl
 have sAt : ∀ (k : Nat) (w : List UInt8) (j : Nat), L[k]? = some w → j < w.length → S[O k + j]? = w[j]? := fun k w j h hj => by rw [hO, hSL]; exact line_at h hj
 have sNl : ∀ (k : Nat) (w : List UInt8), L[k]? = some w → S[O k + w.length]? = some 10 := fun k w h => by rw [hO, hSL]; exact line_nl h
 have sSl : ∀ (k : Nat) (w : List UInt8), L[k]? = some w → (S.drop (O k)).take w.length = w := fun k w h => by rw [hO, hSL]; exact line_slice h
 clear hO hSL hL
 obtain ⟨dv, hdv⟩ : ∃ dv : Nat → Nat, ∀ k, dv k = if k = N + 1 then p.dflt else 0 := ⟨_, fun _ => rfl⟩
 have c20 : (20000 < (S.length : Int)) = False := eq_false (by omega)
 simp [c20, keep_cl]
 refine W_state (S := Nat × Nat) (fun s => S.length - (O s.1 + s.2)) (fun s => [(0, .str S), (2, .ptr 0 0), (5, .ptr 1 0), (6, .int .i64 (O s.1 : Nat)), (7, .bool (decide (s.1 = N + 1))), (20, .ptr 2 0)])
  (fun s => [some (.cells [.vs [] .full, .int .u32 0]), some (.cells [.vs (RL (p.rules.take s.1)) (.own 3), .int .u32 (dv s.1 : Nat)]), some (.siter S (O s.1 + s.2)), some (.zone (min s.1 N))])
  (fun s => (∃ w, L[s.1]? = some w ∧ s.2 ≤ w.length) ∨ (s.1 = N + 1 ∧ s.2 = 0)) (0, 0) ?_ ?_
 ·simp [keep_cl, trunc, o0, hdv, Blk.cl, clL, V.cl, Tk.cl, RL]
  exact ⟨_, List.getElem?_eq_getElem (show 0 < L.length by omega)⟩
 rintro ⟨k, j⟩ hP
 simp only at hP ⊢
 rcases hP with ⟨w, hw, hj⟩ | ⟨rfl, rfl⟩
 ·have hkN : k ≤ N := by have := (List.getElem?_eq_some_iff.1 hw).1; omega
  have hwl := oL k w hw
  obtain ⟨o, hoo⟩ : ∃ o, o = O k := ⟨_, rfl⟩
  rw [← hoo] at hwl
  rcases Nat.lt_or_ge j w.length with hjl | hjl
  ·obtain ⟨b, g1, g2, g3⟩ := liney_at (hline k w hw) hjl
   rw [← sAt k w j hw hjl, ← hoo] at g1
   have hu := utf8_lt g1 g2
   have h5 : o + j < S.length := by omega
   have hb : ((b.toNat : Int) == 10) = false := beqN (b := 10) g3
   have hb' : ((b.toNat : Int) != 10) = true := by simp only [bne, hb]; rfl
   have hkN1 : ¬ k = N + 1 := by omega
   rw [← hoo]
   simp [h5, hu, hb', keep_cl, hkN1, -Int.natCast_add]
   refine ⟨(k, j + 1), ?_, .inl ⟨w, hw, hjl⟩, ?_, ?_⟩
   ·simp only; omega
   ·simp [← hoo, hkN1, keep_cl]
   ·simp [← hoo, trunc, Blk.cl, clL, V.cl, Tk.cl, Nat.add_assoc]
  ·have hjw : j = w.length := by omega
   subst hjw
   obtain ⟨q, hq⟩ : ∃ q, q = o + w.length := ⟨_, rfl⟩
   have hu0 := sNl k w hw
   rw [← hoo, ← hq] at hu0
   have hu := utf8_lt hu0 (by decide)
   have hsl := sSl k w hw
   have hos := oS k w hw
   rw [← hoo] at hsl hos
   rw [← hq] at hos hwl
   have hwq : q - o = w.length := by omega
   rw [← hwq] at hsl
   have e1 : ((o : Int) ≤ (q : Int)) = True := eq_true (by omega)
   have e2 : ((q : Int) ≤ (S.length : Int)) = True := eq_true (by omega)
   have e3 : addI .i64 (q : Int) 1 = ((q + 1 : Nat) : Int) := by rw [addI64] <;> omega
   have hkN1 : ¬ k = N + 1 := by omega
   have d0 : dv k = 0 := by rw [hdv, if_neg hkN1]
   have hmin : min k N = k := by omega
   obtain ⟨D, hD⟩ : ∃ D : Bool → List UInt8 → Heap, ∀ e s, D e s = [some (.cells [.vs [] .full, .int .u32 0]), some (.cells [.vs (RL (p.rules.take k)) (.own 3), .int .u32 0]), some (.siter S (q + 1)), some (.zone k), some (.cells [.str s, .bool e, .bool false])] := ⟨_, fun _ _ => rfl⟩
   have Dsh : ∀ e s, HShut (D e s) := fun e s m hm => by
    rw [hD] at hm ⊢
    simp only [List.length_cons, List.length_nil] at hm
    simp [Blk.cl, clL, V.cl, Tk.cl, show 3 < m by omega]
   have Dst : ∀ e s e' s', rdSet (D e s) 4 s' e' false = D e' s' := fun e s e' s' => by rw [hD, hD]; rfl
   have Drd : ∀ e s, Rdr (D e s) 4 s e false := fun e s => ⟨by rw [hD]; rfl, Dsh e s⟩
   rw [← hoo, ← hq, d0, hmin]
   rcases Nat.lt_or_ge k N with hkl | hkl
   ·obtain ⟨x, hx⟩ : ∃ x, x = p.rules[k]'(by omega) := ⟨_, rfl⟩
    have hg : p.rules[k]? = some x := by rw [List.getElem?_eq_getElem (by omega), hx]
    have hxm := List.mem_of_getElem? hg
    have hwx := hLr k x hg
    rw [hw] at hwx
    have hwe : w = joinW ([111, 110] :: (textM machM x.arch :: textM (callN x.arch) x.nr :: actT x.act :: condsW 0 x.conds)) := by cases hwx; rfl
    have hwlen : w.length < 4611686018427387904 := by omega
    obtain ⟨ws, hws⟩ : ∃ ws, ws = textM machM x.arch :: textM (callN x.arch) x.nr :: actT x.act :: condsW 0 x.conds := ⟨_, rfl⟩
    have hwn : ws ≠ [] := by rw [hws]; simp
    rw [← hws] at hwe
    have q1 := wordW_ok (G := G) (l := []) [111, 110] onW (h := by have := Drd false w; rw [hwe] at this; exact this) (by rw [← hwe]; exact hwlen)
    rw [show rdE ws = false by simp [rdE, hwn], show rdS [111, 110] ws = joinW ws by simp [rdS, hwn], ← hwe, Dst] at q1
    have hjl := joinW_tail_len [111, 110] ws
    rw [← hwe] at hjl
    have hrd : Rdr (D false (joinW ws) ++ [none]) 4 (rdS [] ws) false false := by
     rw [show rdS [] ws = joinW ws by simp [rdS, hwn]]
     exact (Drd false (joinW ws)).app (fun n => rfl)
    rw [hws] at hrd hjl
    obtain ⟨sl, q2⟩ := rest_ok (G := G) x (h1 x hxm) (ho x hxm) hrd (by omega)
    rw [← hws, rdSet_app (by rw [hD]; simp), Dst] at q2
    have hk64 : ((k : Int) == 64) = false := by simp; omega
    have hk1 : ¬ k = N := by omega
    have d1 : dv (k + 1) = 0 := by rw [hdv, if_neg (by omega)]
    have hmin1 : min (k + 1) N = k + 1 := by omega
    have hby : ((k + 1) * 40 ≤ 140737488355328) = True := eq_true (by omega)
    have htl : (p.rules.take k).length = k := by rw [List.length_take]; omega
    have hf4 : (∀ f ∈ RL (p.rules.take k), f.length = 4) = True := eq_true (by intro f hf; simp only [RL, List.mem_map] at hf; obtain ⟨y, _, rfl⟩ := hf; rfl)
    have hsn : RL (p.rules.take k) ++ [x.cs] = RL (p.rules.take (k + 1)) := by rw [List.take_add_one, hg]; simp [RL]
    simp only [hD, Ru.cs, List.cons_append, List.nil_append] at q1 q2 hsn
    simp [hwl, hu, hsl, e1, e2, keep_cl, hkN1, -Int.natCast_add]
    refine callSF_of q1 ?_
    simp [hkN1, keep_cl, -Int.natCast_add]
    refine callSF_of q2 ?_
    simp [htl, hk64, hby, hf4, hsn, e3, keep_cl, -Int.natCast_add]
    refine ⟨(k + 1, 0), ?_, .inl ⟨_, List.getElem?_eq_getElem (show k + 1 < L.length by omega), Nat.zero_le _⟩, ?_, ?_⟩
    ·simp only [hos, ← hoo]; omega
    ·simp [hos, hk1, keep_cl]
    ·simp [hos, hmin1, d1, trunc, Blk.cl, clL, V.cl, Tk.cl]
   ·have hkN2 : k = N := by omega
    subst hkN2
    have hwe : w = joinW ([100, 101, 102, 97, 117, 108, 116] :: [actT p.dflt]) := by rw [hLd] at hw; cases hw; rfl
    have hwlen : w.length < 4611686018427387904 := by omega
    have q1 := wordW_ok (G := G) (l := []) [100, 101, 102, 97, 117, 108, 116] defW (h := by rw [rdS_cons, ← hwe]; exact Drd false w) (by rw [← hwe]; exact hwlen)
    rw [show rdE [actT p.dflt] = false by rfl, show rdS [100, 101, 102, 97, 117, 108, 116] [actT p.dflt] = actT p.dflt by rfl, Dst] at q1
    have hjl := joinW_tail_len [100, 101, 102, 97, 117, 108, 116] [actT p.dflt]
    rw [← hwe] at hjl
    have q2 := wordW_ok (G := G) (l := []) (ws := []) (actT p.dflt) (actT_wordy hd) (h := Drd false (actT p.dflt)) (by omega)
    rw [show rdE [] = true by rfl, show rdS (actT p.dflt) [] = actT p.dflt by rfl, Dst] at q2
    have pA := ReadAction_ok (G := G) p.dflt h2
    have m1 := must_ok (G := G) (Drd true (actT p.dflt))
    generalize actT p.dflt = A at *
    have d1 : dv (k + 1) = p.dflt := by rw [hdv, if_pos rfl]
    have htk : p.rules.take (k + 1) = p.rules.take k := by rw [List.take_of_length_le (by omega), List.take_of_length_le (by omega)]
    simp only [hD] at q1 q2 m1
    simp [hwl, hu, hsl, e1, e2, keep_cl, hkN1, -Int.natCast_add]
    refine callSF_of q1 ?_
    simp [hkN1, keep_cl, -Int.natCast_add]
    refine callSF_of q2 ?_
    simp [keep_cl, -Int.natCast_add]
    refine callP_of pA ?_
    simp [keep_cl, -Int.natCast_add]
    refine callSF_of m1 ?_
    simp [e3, keep_cl, -Int.natCast_add]
    refine ⟨(k + 1, 0), ?_, .inr ⟨rfl, rfl⟩, ?_, ?_⟩
    ·simp only [hos, ← hoo]; omega
    ·simp [hos, keep_cl]
    ·simp [hos, d1, htk, trunc, Blk.cl, clL, V.cl, Tk.cl]
 ·have d1 : dv (N + 1) = p.dflt := by rw [hdv, if_pos rfl]
  have htk : p.rules.take (N + 1) = p.rules := List.take_of_length_le (by omega)
  rw [oE, d1, htk]
  simp [keep_cl, Po.cs]
end Go.Ev
/- Policies that are alike; a long text: contracts. -/
namespace Go.Ev
open Go Go.RowKit
variable {G : Tbl}
set_option maxRecDepth 10000
set_option maxHeartbeats 16000000
set_option linter.unusedSimpArgs false
set_option linter.unusedVariables false
theorem SameRule_ok [HasTopS G] (r : Ru) (hl : r.conds.length ≤ 1000) : FP G 470 [.agg r.cs, .agg r.cs] (.bool true) := by
 refine FP_of HasTopS.h_hurdleref10_SameRule (Nat.le_of_ble_eq_true rfl) ?_
 simp [Ru.cs]
 refine W_up r.conds.length (fun i => [(2, .ptr 0 0), (3, .ptr 1 0), (5, .int .i64 i)]) (fun _ => [some (.cells r.cs), some (.cells r.cs)]) (fun _ => True) ?_ ?_
 ·simp [keep_cl, trunc, Ru.cs, Blk.cl, clL, V.cl, Tk.cl]
 intro i hi _
 by_cases hlt : i < r.conds.length
 ·obtain ⟨x, hx⟩ : ∃ x, x = r.conds[i] := ⟨_, rfl⟩
  have hg : r.conds[i]? = some x := by rw [List.getElem?_eq_getElem hlt, hx]
  have hgc := CL_get hg
  have hget : (CL r.conds)[i]'(by simpa using hlt) = x.cs := by rw [List.getElem?_eq_getElem (by simpa using hlt)] at hgc; exact Option.some.inj hgc
  simp only [Cd.cs] at hgc hget
  simp (disch := omega) [ltT, get_in, hgc, hget, hlt, Ru.cs, keep_cl, trunc, add1', Blk.cl, clL, V.cl, Tk.cl, -Int.natCast_add]
 ·have : i = r.conds.length := by omega
  subst this
  simp (disch := omega) [ltF, keep_cl, trunc, Ru.cs]
theorem Same10_ok [HasTopS G] (p : Po) (hl : p.rules.length ≤ 1000) (h4 : ∀ r ∈ p.rules, r.conds.length ≤ 1000) : FP G 471 [.agg p.cs, .agg p.cs] (.bool true) := by
 refine FP_of HasTopS.h_hurdleref10_Same (Nat.le_of_ble_eq_true rfl) ?_
 simp [Po.cs]
 refine W_up p.rules.length (fun i => [(2, .ptr 0 0), (3, .ptr 1 0), (5, .int .i64 i)]) (fun _ => [some (.cells p.cs), some (.cells p.cs)]) (fun _ => True) ?_ ?_
 ·simp [keep_cl, trunc, Po.cs, Blk.cl, clL, V.cl, Tk.cl]
 intro i hi _
 by_cases hlt : i < p.rules.length
 ·obtain ⟨x, hx⟩ : ∃ x, x = p.rules[i] := ⟨_, rfl⟩
  have hg : p.rules[i]? = some x := by rw [List.getElem?_eq_getElem hlt, hx]
  have hgc := RL_get hg
  have hget : (RL p.rules)[i]'(by simpa using hlt) = x.cs := by rw [List.getElem?_eq_getElem (by simpa using hlt)] at hgc; exact Option.some.inj hgc
  have w := SameRule_ok (G := G) x (h4 x (List.mem_of_getElem? hg))
  simp only [Ru.cs] at w hgc hget
  simp (disch := omega) [ltT, get_in, hgc, hget, hlt, Po.cs, keep_cl]
  refine callP_of w ?_
  simp (disch := omega) [hlt, Po.cs, keep_cl, trunc, add1', Blk.cl, clL, V.cl, Tk.cl, -Int.natCast_add]
 ·have : i = p.rules.length := by omega
  subst this
  simp (disch := omega) [ltF, keep_cl, trunc, Po.cs]
theorem polParse_long [HasTopR G] (s : List UInt8) (hs : 20000 < s.length) : FP G 467 [.str s] (.tup [.agg [.vs [] .no, .int .u32 0], .int .i64 0, .int .i64 3]) := by
 refine FP_of HasTopR.h_policy_Parse (Nat.le_of_ble_eq_true rfl) ?_
 have c20 : (20000 < (s.length : Int)) = True := eq_true (by omega)
 simp [c20, keep_cl]
end Go.Ev
/- Instructions as texts: contracts. -/
namespace Go.Ev
open Go Go.RowKit
variable {G : Tbl}
set_option maxRecDepth 10000
set_option maxHeartbeats 8000000
set_option linter.unusedSimpArgs false
set_option linter.unusedVariables false
def insR (x : In4) (r : Row4) : List (List UInt8) := r.2.1 :: ((if r.2.2.1 = true then [textN x.k] else []) ++ (if r.2.2.2 = true then [textN x.jt.toNat, textN x.jf.toNat] else []))
def insW (x : In4) : List (List UInt8) := match shapeOf x.op with
 | some r => insR x r
 | none => []
theorem shape_words : ∀ r ∈ shapeRows, wordy r.2.1 ∧ r.2.1.length ≤ 5 := by decide
theorem right_shape {x : In4} (h : rightI x = true) : ∃ r, shapeOf x.op = some r ∧ r.1 = x.op ∧ r ∈ shapeRows ∧ (r.2.2.1 = false → x.k = 0) ∧ (r.2.2.2 = false → x.jt = 0 ∧ x.jf = 0) ∧ (r.2.2.2 = true → 0 ≤ x.jt ∧ x.jt ≤ 255 ∧ 0 ≤ x.jf ∧ x.jf ≤ 255) := by
 unfold rightI at h
 split at h
 ·rename_i r hr
  obtain ⟨h1, h2⟩ := shape_some hr
  refine ⟨r, hr, h1, h2, ?_, ?_, ?_⟩ <;> (revert h; cases r.2.2.1 <;> cases r.2.2.2 <;> simp <;> omega)
 ·cases h
theorem insR_wordy {x : In4} {r : Row4} (hr : r ∈ shapeRows) (hk : x.k < 4294967296) (hj : x.jt ≤ 255 ∧ x.jf ≤ 255) : ∀ w ∈ insR x r, wordy w := by
 intro w hw
 simp only [insR, List.mem_cons, List.mem_append] at hw
 rcases hw with rfl | hw | hw
 ·exact (shape_words r hr).1
 ·split at hw
  ·simp at hw; subst hw; exact textN_wordy _ (by omega)
  ·cases hw
 ·split at hw
  ·simp only [List.mem_cons, List.not_mem_nil, or_false] at hw
   rcases hw with rfl | rfl
   ·exact textN_wordy _ (by omega)
   ·exact textN_wordy _ (by omega)
  ·cases hw
theorem insR_len {x : In4} {r : Row4} (hr : r ∈ shapeRows) : (joinW (insR x r)).length ≤ 62 := by
 have h1 := (shape_words r hr).2
 have h2 := textN_len x.k
 have h3 := textN_len x.jt.toNat
 have h4 := textN_len x.jf.toNat
 obtain ⟨op, w, has, ways⟩ := r
 simp only at h1
 cases has <;> cases ways <;> simp [insR, joinW] <;> omega
theorem convTopU {a : Int} (h0 : 0 ≤ a) (h1 : a ≤ 4294967295) : convI .u64 a = ((a.toNat : Nat) : Int) := by
 rw [show a = ((a.toNat : Nat) : Int) by omega]
 simp only [Int.toNat_natCast]
 exact IntWalk.u64_in _ ⟨by omega, by omega⟩
theorem insPrint_ok [HasIns G] [HasWText G] [HasTopI G] (x : In4) {r : Row4} (hx : rightI x = true) (hs : shapeOf x.op = some r) (hk : x.k < 4294967296) : FP G 468 [IV x] (.tup [.str (joinW (insR x r)), .int .i64 0]) := by
 refine FP_of HasTopI.h_ins_Print (Nat.le_of_ble_eq_true rfl) ?_
 obtain ⟨r', hr', h1, h2, h3, h4, h5⟩ := right_shape hx
 rw [hs] at hr'
 cases hr'
 have wR := RightI_ok (G := G) x
 rw [hx] at wR
 have wO := of_ok (G := G) x.op
 rw [ofV, hs] at wO
 have wk := Text_ok (G := G) x.k (by omega)
 have ck : convI .u64 (x.k : Int) = (x.k : Int) := IntWalk.u64_in _ ⟨by omega, by omega⟩
 have l1 := (shape_words r h2).2
 have l2 := textN_len x.k
 have l3 := textN_len x.jt.toNat
 have l4 := textN_len x.jf.toNat
 obtain ⟨op, w, has, ways⟩ := r
 simp only at h1 h3 h4 h5 l1
 simp only [IV, In4.cs, rowCs] at wR wO ⊢
 have b2 : ∀ n : Nat, n ≤ 400 → (n ≤ 9223372036854775807) = True := fun n h => eq_true (by omega)
 cases ways with
 | false =>
  simp
  refine callP_of wR ?_
  simp
  refine callP_of wO ?_
  cases has with
  | false => simp [insR, joinW]
  | true =>
   simp [ck]
   refine callP_of wk ?_
   simp (disch := (first | omega | (simp; omega))) [b2, insR, joinW]
 | true =>
  obtain ⟨j1, j2, j3, j4⟩ := h5 rfl
  have wt := Text_ok (G := G) x.jt.toNat (by omega)
  have wf := Text_ok (G := G) x.jf.toNat (by omega)
  have c1 := convTopU j1 (by omega)
  have c2 := convTopU j3 (by omega)
  simp
  refine callP_of wR ?_
  simp
  refine callP_of wO ?_
  cases has with
  | false =>
   simp [c1, c2, -Int.ofNat_toNat]
   refine callP_of wt ?_
   simp (disch := (first | omega | (simp; omega))) [b2, c1, c2, -Int.ofNat_toNat]
   refine callP_of wf ?_
   simp (disch := (first | omega | (simp; omega))) [b2, insR, joinW]
  | true =>
   simp [ck]
   refine callP_of wk ?_
   simp (disch := (first | omega | (simp; omega))) [b2, c1, c2, -Int.ofNat_toNat]
   refine callP_of wt ?_
   simp (disch := (first | omega | (simp; omega))) [b2, c1, c2, -Int.ofNat_toNat]
   refine callP_of wf ?_
   simp (disch := (first | omega | (simp; omega))) [b2, insR, joinW]
end Go.Ev
/- Words of a text, and instructions read: contracts. -/
namespace Go.Ev
open Go Go.RowKit
variable {G : Tbl}
set_option maxRecDepth 10000
set_option maxHeartbeats 16000000
set_option linter.unusedSimpArgs false
set_option linter.unusedVariables false
def sepT (l : List (List UInt8)) : List UInt8 := l.flatMap (· ++ [32])
theorem sepT_append (a b : List (List UInt8)) : sepT (a ++ b) = sepT a ++ sepT b := by simp [sepT]
theorem joinW_sep : ∀ {l : List (List UInt8)}, l ≠ [] → joinW l ++ [32] = sepT l
 | [], h => absurd rfl h
 | [w], _ => by simp [joinW, sepT]
 | w :: v :: r, _ => by
  rw [joinW_cons w (by simp)]
  have := joinW_sep (l := v :: r) (by simp)
  simp only [sepT, List.flatMap_cons] at this ⊢
  simp [this]
def offW (L : List (List UInt8)) (k : Nat) : Nat := (sepT (L.take k)).length
section
variable {L : List (List UInt8)} {k : Nat} {w : List UInt8}
theorem sep_split (h : L[k]? = some w) : sepT L = sepT (L.take k) ++ (w ++ 32 :: sepT (L.drop (k + 1))) := by
 obtain ⟨hi, he⟩ := List.getElem?_eq_some_iff.1 h
 conv => lhs; rw [← List.take_append_drop k L, sepT_append, List.drop_eq_getElem_cons hi, he]
 simp [sepT]
theorem offW_succ (h : L[k]? = some w) : offW L (k + 1) = offW L k + w.length + 1 := by
 rw [offW, List.take_add_one, h, sepT_append]
 simp [offW, sepT]
 omega
theorem joinW_len (hL : L ≠ []) : (joinW L).length + 1 = (sepT L).length := by rw [← joinW_sep hL]; simp
theorem offW_last (h : L[k]? = some w) (hk : k + 1 = L.length) : offW L k + w.length = (joinW L).length := by
 have hL : L ≠ [] := by rintro rfl; simp at hk
 have h1 := joinW_len hL
 rw [sep_split h, List.drop_of_length_le (by omega), show sepT [] = [] from rfl] at h1
 simp only [List.length_append, List.length_cons, List.length_nil] at h1
 unfold offW
 omega
theorem offW_lt (h : L[k]? = some w) : offW L k + w.length ≤ (joinW L).length ∧ (k + 1 < L.length → offW L k + w.length < (joinW L).length) := by
 have hk := (List.getElem?_eq_some_iff.1 h).1
 have hL : L ≠ [] := by rintro rfl; simp at hk
 have h1 := joinW_len hL
 rw [sep_split h] at h1
 simp only [List.length_append, List.length_cons] at h1
 refine ⟨by unfold offW; omega, fun hlt => ?_⟩
 have : 0 < (sepT (L.drop (k + 1))).length := by
  rw [List.drop_eq_getElem_cons hlt]
  unfold sepT
  rw [List.flatMap_cons, List.length_append, List.length_append, List.length_singleton]
  omega
 unfold offW
 omega
theorem word_get (h : L[k]? = some w) {i : Nat} (hi : i < (joinW L).length) : (joinW L)[i]? = (sepT L)[i]? := by
 have hL : L ≠ [] := by rintro rfl; simp at h
 rw [← joinW_sep hL, List.getElem?_append_left hi]
theorem word_at (h : L[k]? = some w) {j : Nat} (hj : j < w.length) : (joinW L)[offW L k + j]? = w[j]? := by
 rw [word_get h (by have := (offW_lt h).1; omega), sep_split h, List.getElem?_append_right (by simp [offW]), offW]
 simp only [Nat.add_sub_cancel_left]
 rw [List.getElem?_append_left hj]
theorem word_sp (h : L[k]? = some w) (hk : k + 1 < L.length) : (joinW L)[offW L k + w.length]? = some 32 := by
 rw [word_get h ((offW_lt h).2 hk), sep_split h, List.getElem?_append_right (by simp [offW]), offW]
 simp
theorem word_slice (h : L[k]? = some w) : ((joinW L).drop (offW L k)).take w.length = w := by
 have hL : L ≠ [] := by rintro rfl; simp at h
 have h1 : (sepT L).drop (offW L k) = w ++ 32 :: sepT (L.drop (k + 1)) := by
  rw [sep_split h, offW]; simp
 have h2 := (offW_lt h).1
 rw [← joinW_sep hL, List.drop_append_of_le_length (by omega)] at h1
 have h3 := congrArg (List.take w.length) h1
 rw [List.take_append_of_le_length (by rw [List.length_drop]; omega)] at h3
 rw [h3]
 simp
end
def strs (l : List (List UInt8)) : List (List V) := l.map fun w => [.str w]
theorem strs_snoc (a : List (List UInt8)) (w : List UInt8) : strs a ++ [[.str w]] = strs (a ++ [w]) := by simp [strs]
@[simp] theorem strs_length (a : List (List UInt8)) : (strs a).length = a.length := by simp [strs]
theorem strs_sz (a : List (List UInt8)) : (∀ f ∈ strs a, f.length = 1) = True := by
 simp only [eq_iff_iff, iff_true]
 intro f hf
 simp only [strs, List.mem_map] at hf
 obtain ⟨_, _, rfl⟩ := hf
 rfl
theorem insWords_ok [HasParse G] (L : List (List UInt8)) (hL : L ≠ []) (hw : ∀ w ∈ L, wordy w) (hl : (joinW L).length ≤ 100000) (hn : L.length ≤ 1000) : FP G 145 [.str (joinW L)] (.vs (strs L) .no) := by
 refine FP_of HasParse.h_ins_words (Nat.le_of_ble_eq_true rfl) ?_
 obtain ⟨O, hO⟩ : ∃ O : Nat → Nat, ∀ k, O k = offW L k := ⟨_, fun _ => rfl⟩
 obtain ⟨S, hS⟩ : ∃ S, S = joinW L := ⟨_, rfl⟩
 have oS : ∀ (k : Nat) (w : List UInt8), L[k]? = some w → O (k + 1) = O k + w.length + 1 := fun k w h => by rw [hO, hO]; exact offW_succ h
 have oL : ∀ (k : Nat) (w : List UInt8), L[k]? = some w → O k + w.length ≤ S.length ∧ (k + 1 < L.length → O k + w.length < S.length) := fun k w h => by rw [hO, hS]; exact offW_lt h
 have oE : ∀ (k : Nat) (w : List UInt8), L[k]? = some w → k + 1 = L.length → O k + w.length = S.length := fun k w h hk => by rw [hO, hS]; exact offW_last h hk
 have o0 : O 0 = 0 := by rw [hO]; rfl
 have sAt : ∀ (k : Nat) (w : List UInt8) (j : Nat), L[k]? = some w → j < w.length → S[O k + j]? = w[j]? := fun k w j h hj => by rw [hO, hS]; exact word_at h hj
 have sSp : ∀ (k : Nat) (w : List UInt8), L[k]? = some w → k + 1 < L.length → S[O k + w.length]? = some 32 := fun k w h hk => by rw [hO, hS]; exact word_sp h hk
 have sSl : ∀ (k : Nat) (w : List UInt8), L[k]? = some w → (S.drop (O k)).take w.length = w := fun k w h => by rw [hO, hS]; exact word_slice h
 have hlen : 0 < L.length := List.length_pos_iff.2 hL
 rw [← hS] at hl ⊢
 clear hO hS
 simp
 refine W_state (S := Nat × Nat) (fun s => S.length - (O s.1 + s.2)) (fun s => [(0, .str S), (3, .vs (strs (L.take s.1)) (.own 1)), (4, .int .i64 (O s.1 : Nat)), (8, .ptr 0 0)])
  (fun s => [some (.siter S (O s.1 + s.2)), some (.zone s.1)]) (fun s => ∃ w, L[s.1]? = some w ∧ s.2 ≤ w.length) (0, 0) ?_ ?_
 ·simp [keep_cl, trunc, o0, Blk.cl, strs, Tk.cl]
  exact ⟨_, List.getElem?_eq_getElem hlen⟩
 rintro ⟨k, j⟩ ⟨w, hwk, hj⟩
 simp only at hwk hj ⊢
 have hkL : k < L.length := (List.getElem?_eq_some_iff.1 hwk).1
 have hwy := hw w (List.mem_of_getElem? hwk)
 obtain ⟨o, hoo⟩ : ∃ o, o = O k := ⟨_, rfl⟩
 have h1 := oL k w hwk
 rw [← hoo] at h1
 have hsl := sSl k w hwk
 rw [← hoo] at hsl
 have hby : ((k + 1) * 16 ≤ 140737488355328) = True := eq_true (by omega)
 have htl : (L.take k).length = k := by rw [List.length_take]; omega
 have hsn : strs (L.take k) ++ [[.str w]] = strs (L.take (k + 1)) := by rw [strs_snoc, List.take_add_one, hwk]; rfl
 have hsz := strs_sz (L.take k)
 rcases Nat.lt_or_ge j w.length with hjl | hjl
 ·obtain ⟨b, g1, g2, g3, _⟩ := wordy_at hwy hjl
  rw [← sAt k w j hwk hjl, ← hoo] at g1
  have hu := utf8_lt g1 g2
  have h5 : o + j < S.length := by omega
  have hb : ((b.toNat : Int) == 32) = false := beqN (b := 32) g3
  rw [← hoo]
  simp [h5, hu, hb, keep_cl, -Int.natCast_add]
  refine ⟨(k, j + 1), ?_, ⟨w, hwk, hjl⟩, ?_, ?_⟩
  ·simp only; omega
  ·simp [← hoo, keep_cl, Tk.cl]
  ·simp [← hoo, trunc, Blk.cl, Nat.add_assoc]
 ·have hjw : j = w.length := by omega
  subst hjw
  obtain ⟨q, hq⟩ : ∃ q, q = o + w.length := ⟨_, rfl⟩
  have hwq : q - o = w.length := by omega
  rw [← hwq] at hsl
  rw [← hq] at h1
  have e1 : ((o : Int) ≤ (q : Int)) = True := eq_true (by omega)
  have e2 : ((q : Int) ≤ (S.length : Int)) = True := eq_true (by omega)
  have e3 : addI .i64 (q : Int) 1 = ((q + 1 : Nat) : Int) := by rw [addI64] <;> omega
  rw [← hoo, ← hq]
  rcases Nat.lt_or_ge (k + 1) L.length with hkl | hkl
  ·have hu0 := sSp k w hwk hkl
   rw [← hoo, ← hq] at hu0
   have hu := utf8_lt hu0 (by decide)
   have h5 := h1.2 hkl
   have hos := oS k w hwk
   rw [← hoo, ← hq] at hos
   simp [h5, hu, hsl, e1, e2, e3, hby, htl, hsn, hsz, keep_cl, -Int.natCast_add]
   refine ⟨(k + 1, 0), ?_, ⟨_, List.getElem?_eq_getElem hkl, Nat.zero_le _⟩, ?_, ?_⟩
   ·simp only [hos, ← hoo]; omega
   ·simp [hos, keep_cl, Tk.cl]
   ·simp [hos, trunc, Blk.cl]
  ·have hk1 : k + 1 = L.length := by omega
   have hqe := oE k w hwk hk1
   rw [← hoo, ← hq] at hqe
   have h5 : ¬ q < S.length := by omega
   have e4 : ((o : Int) ≤ (S.length : Int)) = True := eq_true (by omega)
   have hfin : L.take (k + 1) = L := List.take_of_length_le (by omega)
   rw [hqe] at hsl
   rw [hfin] at hsn
   simp [h5, hsl, e4, hby, htl, hsn, hsz, keep_cl, -Int.natCast_add]
end Go.Ev
/- More of what is done with bits. -/
namespace Go.Ev
open Go Go.RowKit
variable {G : Tbl}
set_option maxRecDepth 10000
set_option maxHeartbeats 4000000
set_option linter.unusedSimpArgs false
set_option linter.unusedVariables false
theorem val_lt (vs : List Int) (tab : List Nat) (r : Int → Nat) : val vs tab r < 4294967296 := wordOf_lt _ 32
theorem val_do {kind : Int} {fv gv vs : List Int} {ft gt tab : List Nat} (h : kind = 68 ∨ kind = 84 ∨ kind = 164) (hs : ∀ p, sem vs tab p = (doW kind (sem fv ft p) (sem gv gt p)).1) (r : Int → Nat) :
  val vs tab r = (doW kind (val fv ft r) (val gv gt r)).1 := by
 refine Nat.eq_of_testBit_eq fun i => ?_
 have hv : ∀ (v : List Int) (t : List Nat), (val v t r).testBit i = (decide (i < 32) && (sem v t fun u => (r u).testBit i).testBit i) := fun v t => by rw [val, wordOf_bit]
 rcases h with rfl | rfl | rfl <;> simp only [doW] at hs ⊢ <;> simp at hs ⊢ <;> (rw [hv, hs]; simp [hv]; try (cases decide (i < 32) <;> simp))
end Go.Ev
/- Sums, constants, variables and bits of a book. -/
namespace Go.Ev
open Go Go.RowKit
variable {G : Tbl}
set_option maxRecDepth 10000
set_option maxHeartbeats 4000000
set_option linter.unusedSimpArgs false
set_option linter.unusedVariables false
variable {H : Heap} {b z m : Nat} {L : List Nd}
def putN (L : List Nd) (a : Nd) : Int × List Nd := ((L.idxOf a : Nat), insN L a)
def varN (L : List Nd) (i : Int) : Int × List Nd := if 0 ≤ i ∧ i < 34 then putN L (sumNd (varL i.toNat)) else (-1, L)
def bitNd (fv : List Int) (ft : List Nat) : Nd := { Nd0 with kind := 1, n := fv.length, vars := fv.map Int.toNat ++ zeros (4 - fv.length), tab := ft ++ zeros (16 - ft.length) }
def ones : Nat := 4294967295
def bitsN (L : List Nd) (fv : List Int) (ft : List Nat) : Int × List Nd :=
 match fv with
 | [] => putN L (sumNd (ft.headD 0 :: zeros 34))
 | [i] => if ft = [0, ones] then putN L (sumNd (varL i.toNat)) else if ft = [ones, 0] then putN L (sumNd (fSub (ones :: zeros 34) (varL i.toNat))) else putN L (bitNd [i] ft)
 | fv => putN L (bitNd fv ft)
end Go.Ev
/- What a book's values are. -/
namespace Go.Ev
open Go Go.RowKit
variable {G : Tbl}
set_option maxRecDepth 10000
set_option maxHeartbeats 4000000
set_option linter.unusedSimpArgs false
set_option linter.unusedVariables false
variable {H : Heap} {b z m : Nat} {L : List Nd}
def asB (a : Nd) : Option (List Int × List Nat) :=
 if a.kind = 1 then some ((a.vars.take a.n).map fun (x : Nat) => (x : Int), a.tab.take (2 ^ a.n))
 else if a.kind = 0 then (match fConst a.f with
  | some c => some ([], [c])
  | none => match fOne a.f with
   | some i => some ([(i : Int)], [0, ones])
   | none => match fOne (fSub (ones :: zeros 34) a.f) with
    | some i => some ([(i : Int)], [ones, 0])
    | none => none)
 else none
end Go.Ev
/- Work on two values of a book. -/
namespace Go.Ev
open Go Go.RowKit
variable {G : Tbl}
set_option maxRecDepth 10000
set_option maxHeartbeats 4000000
set_option linter.unusedSimpArgs false
set_option linter.unusedVariables false
variable {H : Heap} {b z m : Nat} {L : List Nd}
def Nd.wf (a : Nd) : Prop := (∀ c ∈ a.f, c < 4294967296) ∧ (a.kind = 1 → Right ((a.vars.take a.n).map fun (x : Nat) => (x : Int)) (a.tab.take (2 ^ a.n)) ∧ a.n ≤ 4 ∧ ∀ w ∈ a.tab, w < 4294967296)
def constA (a : Nd) : Option Nat := if a.kind = 0 then fConst a.f else none
abbrev R3 := Int × Bool × List Nd
def okP (p : Int × List Nd) : R3 := (p.1, true, p.2)
def noR (L : List Nd) : R3 := (0, false, L)
def sumsN (L : List Nd) (kind : Int) (a c : Nd) : R3 :=
 if a.kind = 0 ∧ c.kind = 0 then
  if kind = 4 then okP (putN L (sumNd (fAdd a.f c.f)))
  else if kind = 20 then okP (putN L (sumNd (fSub a.f c.f)))
  else match fConst a.f, fConst c.f with
   | some u, some v => if kind = 36 then okP (putN L (sumNd (fMul a.f v))) else if kind = 100 then okP (putN L (sumNd (fMul a.f (doW 100 1 v).1)))
    else ((putN L (sumNd ((doW kind u v).1 :: zeros 34))).1, (doW kind u v).2, (putN L (sumNd ((doW kind u v).1 :: zeros 34))).2)
   | none, some v => if kind = 36 then okP (putN L (sumNd (fMul a.f v))) else if kind = 100 then okP (putN L (sumNd (fMul a.f (doW 100 1 v).1))) else noR L
   | some u, none => if kind = 36 then okP (putN L (sumNd (fMul c.f u))) else noR L
   | none, none => noR L
 else noR L
theorem fConst_lt {f : List Nat} {c : Nat} (h : fConst f = some c) (hw : ∀ x ∈ f, x < 4294967296) : c < 4294967296 := by
 rw [fConst] at h
 split at h
 ·exact hw c (List.mem_of_mem_head? h)
 ·cases h
end Go.Ev
/- Work on bits of a book, and what is known of all numbers. -/
namespace Go.Ev
open Go Go.RowKit
variable {G : Tbl}
set_option maxRecDepth 10000
set_option maxHeartbeats 4000000
set_option linter.unusedSimpArgs false
set_option linter.unusedVariables false
variable {H : Heap} {b z m : Nat} {L : List Nd}
theorem fOne_lt {f : List Nat} {i : Nat} (h : fOne f = some i) : i < 34 := List.mem_range.1 (List.mem_of_find?_eq_some h)
open Classical in
/-- What is done with bits. -/
noncomputable def bdo (kind : Int) (p q : List Int × List Nat) : Option (List Int × List Nat) :=
 if h : DoOk kind p.1 q.1 p.2 q.2 ∧ ∃ r : List Int × List Nat, Right r.1 r.2 ∧ (∀ w ∈ r.2, w < 4294967296) ∧ ∀ s, sem r.1 r.2 s = (doW kind (sem p.1 p.2 s) (sem q.1 q.2 s)).1 then some (Classical.choose h.2) else none
theorem bdo_some {kind : Int} {p q r : List Int × List Nat} (h : bdo kind p q = some r) : DoOk kind p.1 q.1 p.2 q.2 ∧ Right r.1 r.2 ∧ (∀ w ∈ r.2, w < 4294967296) ∧ ∀ s, sem r.1 r.2 s = (doW kind (sem p.1 p.2 s) (sem q.1 q.2 s)).1 := by
 rw [bdo] at h
 split at h
 ·rename_i hh
  cases h
  exact ⟨hh.1, Classical.choose_spec hh.2⟩
 ·cases h
noncomputable def bothN (L : List Nd) (kind : Int) (a c : Nd) : R3 :=
 match asB a, asB c with
 | some p, some q => (match bdo kind p q with | some r => okP (bitsN L r.1 r.2) | none => noR L)
 | _, _ => noR L
def plainN (kind : Int) (cy : Option Nat) (x y : Int) : Int × Bool :=
 if kind = 4 ∨ kind = 20 ∨ kind = 100 ∨ kind = 116 then (x, decide (cy = some 0)) else if kind = 68 then (x, decide (cy = some 0) || decide (x = y)) else if kind = 164 then (x, decide (cy = some 0))
 else if kind = 84 then (x, decide (cy = some ones) || decide (x = y)) else (0, false)
end Go.Ev
/- Books stay books: plain laws. -/
namespace Go.Ev
open Go Go.RowKit
set_option maxRecDepth 10000
set_option maxHeartbeats 4000000
set_option linter.unusedSimpArgs false
set_option linter.unusedVariables false
variable {L : List Nd}
def Nd.good (n : Nat) (a : Nd) : Prop := a.ok ∧ a.wf ∧ (a.kind = 0 ∨ a.kind = 1 ∨ a.kind = 2 ∧ a.x < n ∧ a.y < n ∧ (doW a.op 0 1).2 = true)
theorem Nd.good.mono {n k : Nat} {a : Nd} (h : a.good n) (hk : n ≤ k) : a.good k := ⟨h.1, h.2.1, by rcases h.2.2 with h | h | ⟨h, h1, h2, h3⟩; exact .inl h; exact .inr (.inl h); exact .inr (.inr ⟨h, by omega, by omega, h3⟩)⟩
structure Inv (L : List Nd) : Prop where
 good : ∀ (i : Nat) (a : Nd), L[i]? = some a → a.good i
 one : L.Nodup
theorem Inv.ok (h : Inv L) : ∀ a ∈ L, a.ok := fun a ha => by obtain ⟨i, hi⟩ := List.getElem?_of_mem ha; exact (h.good i a hi).1
theorem Inv.wf (h : Inv L) : ∀ a ∈ L, a.wf := fun a ha => by obtain ⟨i, hi⟩ := List.getElem?_of_mem ha; exact (h.good i a hi).2.1
theorem Inv.nil : Inv [] := ⟨fun i a h => by simp at h, List.nodup_nil⟩
structure Ext (L L' : List Nd) (k : Nat) : Prop where
 pre : L <+: L'
 inv : Inv L'
 len : L'.length ≤ L.length + k
theorem Ext.refl (h : Inv L) (k : Nat) : Ext L L k := ⟨List.prefix_refl L, h, by omega⟩
theorem Ext.trans {L' L'' : List Nd} {k l : Nat} (h : Ext L L' k) (h' : Ext L' L'' l) : Ext L L'' (k + l) := ⟨h.pre.trans h'.pre, h'.inv, by have := h.len; have := h'.len; omega⟩
theorem Ext.mono {L' : List Nd} {k l : Nat} (h : Ext L L' k) (hk : k ≤ l) : Ext L L' l := ⟨h.pre, h.inv, by have := h.len; omega⟩
theorem pre_get {α : Type} {l l' : List α} (h : l <+: l') {i : Nat} {a : α} (hi : l[i]? = some a) : l'[i]? = some a := by
 obtain ⟨t, rfl⟩ := h
 rw [List.getElem?_append_left (List.getElem?_eq_some_iff.1 hi).1]
 exact hi
theorem Ext.get {L' : List Nd} {k i : Nat} {a : Nd} (h : Ext L L' k) (hi : L[i]? = some a) : L'[i]? = some a := pre_get h.pre hi
theorem put_ext (h : Inv L) {a : Nd} (ha : a.good L.length) : Ext L (putN L a).2 1 ∧ ∃ i : Nat, (putN L a).1 = i ∧ (putN L a).2[i]? = some a := by
 by_cases hm : a ∈ L
 ·have e : (putN L a).2 = L := by show insN L a = L; rw [insN, if_pos hm]
  refine ⟨by rw [e]; exact .refl h 1, L.idxOf a, rfl, ?_⟩
  rw [e, List.getElem?_eq_getElem (List.idxOf_lt_length_of_mem hm), List.getElem_idxOf]
 ·have e : (putN L a).2 = L ++ [a] := by show insN L a = _; rw [insN, if_neg hm]
  have e1 : (putN L a).1 = (L.length : Nat) := by show ((L.idxOf a : Nat) : Int) = _; rw [idxOf_out hm]
  refine ⟨⟨by rw [e]; exact List.prefix_append _ _, ?_, by rw [e]; simp⟩, L.length, e1, by rw [e]; simp⟩
  rw [e]
  refine ⟨fun i x hx => ?_, ?_⟩
  ·by_cases hi : i < L.length
   ·rw [List.getElem?_append_left hi] at hx; exact h.good i x hx
   ·have hlt := (List.getElem?_eq_some_iff.1 hx).1
    simp at hlt
    obtain rfl : i = L.length := by omega
    simp at hx
    subst hx; exact ha
  ·rw [List.nodup_append]
   exact ⟨h.one, by simp, fun x hx y hy e' => by simp at hy; rw [← hy, ← e'] at hm; exact hm hx⟩
theorem sum_good {f : List Nat} (hf : f.length = 35) (hw : ∀ c ∈ f, c < 4294967296) (n : Nat) : (sumNd f).good n := ⟨⟨hf, rfl, rfl⟩, ⟨hw, fun h => by cases h⟩, .inl rfl⟩
theorem zeros_lt (n : Nat) : ∀ c ∈ zeros n, c < 4294967296 := fun c hc => by rw [zeros, List.mem_replicate] at hc; omega
theorem const_lt {c : Nat} (hc : c < 4294967296) : ∀ x ∈ c :: zeros 34, x < 4294967296 := fun x hx => by
 rcases List.mem_cons.1 hx with rfl | hx
 ·exact hc
 ·exact zeros_lt 34 x hx
theorem varL_lt (i : Nat) : ∀ x ∈ varL i, x < 4294967296 := fun x hx => by
 rw [varL] at hx
 rcases List.mem_or_eq_of_mem_set hx with hx | rfl
 ·exact zeros_lt 35 x hx
 ·omega
theorem varL_len (i : Nat) : (varL i).length = 35 := by simp [varL]
theorem zip_lt {o : Nat → Nat → Nat} (ho : ∀ a b, o a b < 4294967296) : ∀ (f g : List Nat), ∀ x ∈ List.zipWith o f g, x < 4294967296
 | [], _, x, hx => by simp at hx
 | _ :: _, [], x, hx => by simp at hx
 | a :: f, b :: g, x, hx => by
  simp only [List.zipWith_cons_cons, List.mem_cons] at hx
  rcases hx with rfl | hx
  ·exact ho a b
  ·exact zip_lt ho f g x hx
theorem fAdd_lt (f g : List Nat) : ∀ x ∈ fAdd f g, x < 4294967296 := zip_lt (fun a b => Nat.mod_lt _ (by decide)) f g
theorem fSub_lt (f g : List Nat) : ∀ x ∈ fSub f g, x < 4294967296 := zip_lt (fun a b => Nat.mod_lt _ (by decide)) f g
theorem fMul_lt (f : List Nat) (k : Nat) : ∀ x ∈ fMul f k, x < 4294967296 := fun x hx => by
 obtain ⟨y, _, rfl⟩ := List.mem_map.1 hx
 exact Nat.mod_lt _ (by decide)
theorem fAdd_len {f g : List Nat} (hf : f.length = 35) (hg : g.length = 35) : (fAdd f g).length = 35 := by simp [fAdd, hf, hg]
theorem fSub_len {f g : List Nat} (hf : f.length = 35) (hg : g.length = 35) : (fSub f g).length = 35 := by simp [fSub, hf, hg]
theorem fMul_len {f : List Nat} (k : Nat) (hf : f.length = 35) : (fMul f k).length = 35 := by simp [fMul, hf]
theorem bitNd_back {fv : List Int} {ft : List Nat} (h : ∀ v ∈ fv, 0 ≤ v) (hl : ft.length = 2 ^ fv.length) : ((bitNd fv ft).vars.take (bitNd fv ft).n).map (fun (x : Nat) => (x : Int)) = fv ∧ (bitNd fv ft).tab.take (2 ^ (bitNd fv ft).n) = ft := by
 constructor
 ·show ((fv.map Int.toNat ++ zeros (4 - fv.length)).take fv.length).map _ = fv
  rw [List.take_left' (by simp), List.map_map]
  conv => rhs; rw [← List.map_id fv]
  exact List.map_congr_left fun v hv => by have := h v hv; simp; omega
 ·show (ft ++ zeros (16 - ft.length)).take (2 ^ fv.length) = ft
  rw [← hl]; exact List.take_left' rfl
theorem right_nn {fv : List Int} {ft : List Nat} (h : Right fv ft) : ∀ v ∈ fv, 0 ≤ v := fun v hv => by
 obtain ⟨j, hj, rfl⟩ := List.getElem_of_mem hv
 obtain ⟨w, hw, hw0, _⟩ := h.2.2 j hj
 rw [List.getElem?_eq_getElem hj] at hw
 cases hw; exact hw0
theorem bit_good {fv : List Int} {ft : List Nat} (h : Right fv ft) (hw : ∀ c ∈ ft, c < 4294967296) (n : Nat) : (bitNd fv ft).good n := by
 have h4 := h.1
 have hl : ft.length ≤ 16 := by rw [h.2.1]; exact Nat.pow_le_pow_right (n := 2) (by decide) h4
 obtain ⟨e1, e2⟩ := bitNd_back (right_nn h) h.2.1
 refine ⟨⟨rfl, by simp [bitNd]; omega, by simp [bitNd]; omega⟩, ⟨zeros_lt 35, fun _ => ⟨?_, h4, ?_⟩⟩, .inr (.inl rfl)⟩
 ·rw [e1, e2]; exact h
 ·intro w hw'
  simp only [bitNd, List.mem_append] at hw'
  rcases hw' with h | h
  ·exact hw w h
  ·exact zeros_lt _ w h
theorem asB_var : ∀ i, i < 34 → asB (sumNd (varL i)) = some ([(i : Int)], [0, ones]) ∧ asB (sumNd (fSub (ones :: zeros 34) (varL i))) = some ([(i : Int)], [ones, 0]) := by
 decide +kernel
theorem bits_ext (h : Inv L) {fv : List Int} {ft : List Nat} (hR : Right fv ft) (hw : ∀ c ∈ ft, c < 4294967296) : Ext L (bitsN L fv ft).2 1 ∧ ∃ (i : Nat) (a : Nd), (bitsN L fv ft).1 = i ∧ (bitsN L fv ft).2[i]? = some a ∧ asB a = some (fv, ft) := by
 have gen : bitsN L fv ft = putN L (bitNd fv ft) → Ext L (bitsN L fv ft).2 1 ∧ ∃ (i : Nat) (a : Nd), (bitsN L fv ft).1 = i ∧ (bitsN L fv ft).2[i]? = some a ∧ asB a = some (fv, ft) := fun e => by
  obtain ⟨e1, e2⟩ := bitNd_back (right_nn hR) hR.2.1
  obtain ⟨h1, i, h2, h3⟩ := put_ext h (bit_good hR hw _)
  rw [e]
  exact ⟨h1, i, _, h2, h3, by rw [asB, if_pos (show (bitNd fv ft).kind = 1 from rfl), e1, e2]⟩
 match fv, hR, gen with
 | [], hR, gen =>
  obtain ⟨c, rfl⟩ : ∃ c, ft = [c] := by match ft, hR.2.1 with | [c], _ => exact ⟨c, rfl⟩
  obtain ⟨h1, i, h2, h3⟩ := put_ext h (sum_good (f := c :: zeros 34) (by simp) (const_lt (hw c (by simp))) _)
  exact ⟨h1, i, _, h2, h3, by simp [asB, sumNd, Nd0, fConst]⟩
 | [v], hR, gen =>
  obtain ⟨w, hv, hv0, hv34, _⟩ := hR.2.2 0 (by simp)
  obtain rfl : v = w := by simpa using hv
  obtain ⟨n, rfl⟩ := Int.eq_ofNat_of_zero_le hv0
  obtain ⟨a1, a2⟩ := asB_var n (by omega)
  by_cases e1 : ft = [0, ones]
  ·have e : bitsN L [(n : Int)] ft = putN L (sumNd (varL n)) := by rw [e1]; rfl
   obtain ⟨h1, i, h2, h3⟩ := put_ext h (sum_good (varL_len n) (varL_lt n) _)
   rw [e]
   exact ⟨h1, i, _, h2, h3, by rw [a1, e1]⟩
  ·by_cases e2 : ft = [ones, 0]
   ·have e : bitsN L [(n : Int)] ft = putN L (sumNd (fSub (ones :: zeros 34) (varL n))) := by rw [e2]; rfl
    obtain ⟨h1, i, h2, h3⟩ := put_ext h (sum_good (fSub_len (f := ones :: zeros 34) rfl (varL_len n)) (fSub_lt _ _) _)
    rw [e]
    exact ⟨h1, i, _, h2, h3, by rw [a2, e2]⟩
   ·exact gen (by simp only [bitsN, e1, e2, if_false])
 | u :: v :: t, hR, gen => exact gen rfl
end Go.Ev
/- Arithmetic in a book. -/
namespace Go.Ev
open Go Go.RowKit
variable {G : Tbl}
set_option maxRecDepth 10000
set_option maxHeartbeats 4000000
set_option linter.unusedSimpArgs false
set_option linter.unusedVariables false
variable {H : Heap} {b z m : Nat} {L : List Nd}
theorem Bk.to (h : Bk H b z m L) {L' : List Nd} (hi : Inv L') (hs : L'.length ≤ 1000000) : Bk (upd H b z m L') b z m L' := h.upd_bk hi.ok hs
def swapsB (kind : Int) : Bool := decide (kind ≠ 20 ∧ kind ≠ 52 ∧ kind ≠ 100 ∧ kind ≠ 116)
def deedNd (kind : Int) (x y : Nat) : Nd := { Nd0 with kind := 2, op := kind, x := x, y := y }
noncomputable def bAlu2 (L : List Nd) (kind : Int) (x y : Nat) (a c : Nd) : Int × List Nd :=
 let s1 := sumsN L kind a c
 let s2 := bothN s1.2.2 kind a c
 let s3 := plainN kind (constA c) x y
 let s4 := plainN kind (constA a) y x
 if s1.2.1 = true then (s1.1, s1.2.2) else if s2.2.1 = true then (s2.1, s2.2.2) else if s3.2 = true then (s3.1, s1.2.2)
 else if swapsB kind = true ∧ s4.2 = true then (s4.1, s1.2.2)
 else if swapsB kind = true ∧ y < x then putN s1.2.2 (deedNd kind y x) else putN s1.2.2 (deedNd kind x y)
noncomputable def bAlu (L : List Nd) (kind x y : Int) : Int × List Nd :=
 if (doW kind 0 1).2 = true ∧ hasI L x = true ∧ hasI L y = true then (match L[x.toNat]?, L[y.toNat]? with | some a, some c => bAlu2 L kind x.toNat y.toNat a c | _, _ => (-1, L)) else (-1, L)
section
variable {K : Heap} {kind : Int} {x y p0 p1 p2 p3 p4 : Nat} {a c : Nd}
end
theorem sums_ext {kind : Int} {a c : Nd} (h : Inv L) (ha : a.ok) (hc : c.ok) (haw : a.wf) (hcw : c.wf) : Ext L (sumsN L kind a c).2.2 1 := by
 have no : Ext L (noR L).2.2 1 := .refl h 1
 have yes : ∀ f : List Nat, f.length = 35 → (∀ x ∈ f, x < 4294967296) → Ext L (okP (putN L (sumNd f))).2.2 1 := fun f hf hw => (put_ext h (sum_good hf hw _)).1
 rw [sumsN]
 split
 ·split
  ·exact yes _ (fAdd_len ha.1 hc.1) (fAdd_lt _ _)
  ·split
   ·exact yes _ (fSub_len ha.1 hc.1) (fSub_lt _ _)
   ·split
    ·rename_i u v eu ev
     split
     ·exact yes _ (fMul_len _ ha.1) (fMul_lt _ _)
     ·split
      ·exact yes _ (fMul_len _ ha.1) (fMul_lt _ _)
      ·exact (put_ext h (sum_good (by simp) (const_lt (doW32 kind (fConst_lt eu haw.1) (fConst_lt ev hcw.1))) _)).1
    ·split
     ·exact yes _ (fMul_len _ ha.1) (fMul_lt _ _)
     ·split
      ·exact yes _ (fMul_len _ ha.1) (fMul_lt _ _)
      ·exact no
    ·split
     ·exact yes _ (fMul_len _ hc.1) (fMul_lt _ _)
     ·exact no
    ·exact no
 ·exact no
end Go.Ev
/- The numbers of a book's values. -/
namespace Go.Ev
open Go Go.RowKit
variable {G : Tbl}
set_option maxRecDepth 10000
set_option maxHeartbeats 4000000
set_option linter.unusedSimpArgs false
set_option linter.unusedVariables false
variable {H : Heap} {b z m : Nat} {L : List Nd}
def negN' (L : List Nd) : Int × List Nd := putN L (sumNd (0 :: zeros 34))
noncomputable def bNeg (L : List Nd) (x : Int) : Int × List Nd := if hasI L x = true then bAlu (negN' L).2 20 (negN' L).1 x else (-1, L)
theorem zero_ext (h : Inv L) : Ext L (negN' L).2 1 := (put_ext h (sum_good (by simp) (const_lt (by decide)) _)).1
/-! Numbers. -/
/-- Arithmetic of numbers, where there are two. -/
def aluV (kind : Int) (o o' : Option Nat) : Option Nat := match o, o' with
 | some l, some r => if (doW kind l r).2 = true then some (doW kind l r).1 else none
 | _, _ => none
noncomputable def nval (v : List Nat) (acc : List (Option Nat)) (a : Nd) : Option Nat :=
 if a.kind = 0 then some (fEval a.f v) else if a.kind = 1 then (asB a).map fun p => val p.1 p.2 (asg v)
 else aluV a.op acc[a.x]?.join acc[a.y]?.join
noncomputable def vals (v : List Nat) (L : List Nd) : List (Option Nat) := L.foldl (fun acc a => acc ++ [nval v acc a]) []
section
variable {v : List Nat}
theorem vals_snoc (L : List Nd) (a : Nd) : vals v (L ++ [a]) = vals v L ++ [nval v (vals v L) a] := by simp [vals]
theorem vals_len : ∀ L : List Nd, (vals v L).length = L.length := by
 intro L
 have : ∀ (L : List Nd) (acc : List (Option Nat)), (L.foldl (fun acc a => acc ++ [nval v acc a]) acc).length = acc.length + L.length := fun L => by
  induction L with
  | nil => intro acc; rfl
  | cons a L ih => intro acc; simp only [List.foldl_cons, ih]; simp; omega
 simpa [vals] using this L []
theorem vals_app : ∀ (L M : List Nd), vals v L <+: vals v (L ++ M) := by
 intro L M
 have : ∀ (M : List Nd) (acc : List (Option Nat)), acc <+: M.foldl (fun acc a => acc ++ [nval v acc a]) acc := fun M => by
  induction M with
  | nil => intro acc; exact List.prefix_refl _
  | cons a M ih => intro acc; exact (List.prefix_append _ _).trans (ih _)
 rw [vals, vals, List.foldl_append]
 exact this M _
theorem vals_pre {L L' : List Nd} (h : L <+: L') : vals v L <+: vals v L' := by obtain ⟨M, rfl⟩ := h; exact vals_app L M
theorem vals_take (L : List Nd) (i : Nat) : (vals v L).take i = vals v (L.take i) := by
 have h := vals_pre (v := v) (List.take_prefix i L)
 obtain ⟨t, ht⟩ := h
 by_cases hi : i ≤ L.length
 ·rw [← ht, List.take_left' (by rw [vals_len, List.length_take]; omega)]
 ·rw [List.take_of_length_le (by rw [vals_len]; omega), List.take_of_length_le (by omega)]
theorem vals_at {i : Nat} {a : Nd} (h : L[i]? = some a) : (vals v L)[i]? = some (nval v (vals v (L.take i)) a) := by
 have hl := (List.getElem?_eq_some_iff.1 h).1
 have e : L.take (i + 1) = L.take i ++ [a] := by rw [List.take_add_one, h]; rfl
 have h1 := vals_take (v := v) L (i + 1)
 rw [e, vals_snoc] at h1
 have h2 : ((vals v L).take (i + 1))[i]? = (vals v L)[i]? := by rw [List.getElem?_take]; simp
 rw [← h2, h1, List.getElem?_append_right (by rw [vals_len, List.length_take]; omega), vals_len, List.length_take]
 rw [show i - min i L.length = 0 by omega]
 rfl
end
theorem fEval_lt (f v : List Nat) : fEval f v < 4294967296 := Nat.mod_lt _ (by decide)
theorem vals_lt {v : List Nat} {k i : Nat} {o : Option Nat} (hi : Inv L) (h : (vals v (L.take k))[i]? = some o) : o.getD 0 < 4294967296 := by
 have main : ∀ (i : Nat) (o : Option Nat), (vals v L)[i]? = some o → o.getD 0 < 4294967296 := fun i => by
  induction i using Nat.strongRecOn with
  | _ i ih =>
   intro o ho
   have hl := (List.getElem?_eq_some_iff.1 ho).1
   rw [vals_len] at hl
   have ha := get_in hl
   rw [vals_at ha] at ho
   cases ho
   have hg := hi.good i _ ha
   have sub : ∀ j, j < i → (vals v (L.take i))[j]? = (vals v L)[j]? := fun j hj => by rw [← vals_take, List.getElem?_take, if_pos hj]
   rw [nval]
   split
   ·exact fEval_lt _ _
   ·split
    ·cases e : asB L[i] with
     | none => simp
     | some p => simp only [Option.map_some, Option.getD_some]; exact val_lt _ _ _
    ·rcases hg.2.2 with h | h | ⟨_, hx, hy, _⟩
     ·contradiction
     ·contradiction
     ·unfold aluV
      split
      ·rename_i l r el er
       split
       ·rw [sub _ hx] at el
        rw [sub _ hy] at er
        obtain ⟨o1, h1, h1'⟩ : ∃ o1, (vals v L)[L[i].x]? = some o1 ∧ o1 = some l := by
         cases e : (vals v L)[L[i].x]? with
         | none => rw [e] at el; cases el
         | some o1 => rw [e] at el; exact ⟨o1, rfl, el⟩
        obtain ⟨o2, h2, h2'⟩ : ∃ o2, (vals v L)[L[i].y]? = some o2 ∧ o2 = some r := by
         cases e : (vals v L)[L[i].y]? with
         | none => rw [e] at er; cases er
         | some o2 => rw [e] at er; exact ⟨o2, rfl, er⟩
        have b1 := ih _ hx _ h1
        have b2 := ih _ hy _ h2
        rw [h1'] at b1
        rw [h2'] at b2
        exact doW32 _ b1 b2
       ·simp
      ·simp
 by_cases hik : i < k
 ·rw [← vals_take, List.getElem?_take, if_pos hik] at h
  exact main i o h
 ·rw [← vals_take, List.getElem?_take, if_neg hik] at h
  cases h
noncomputable def valI (v : List Nat) (L : List Nd) (x : Int) : Option Nat := if hasI L x = true then (vals v L)[x.toNat]?.join else none
end Go.Ev
/- The document's values: how each was made. -/
namespace Go.Ev
open Go Go.RowKit
variable {G : Tbl}
set_option maxRecDepth 10000
set_option maxHeartbeats 4000000
set_option linter.unusedSimpArgs false
set_option linter.unusedVariables false
structure Md where
 kind : Int
 i : Int
 op : Int
 x : Int
 y : Int
 c : Nat
def Md.cs (a : Md) : List V := [.int .i64 a.kind, .int .i64 a.i, .int .i64 a.op, .int .i64 a.x, .int .i64 a.y, .int .u32 (a.c : Int)]
def mds (l : List Md) : List (List V) := l.map Md.cs
@[simp] theorem mds_length (l : List Md) : (mds l).length = l.length := by simp [mds]
def thereB (l : List Md) (i : Int) : Bool := decide (0 ≤ i ∧ i < l.length) && (match l[i.toNat]? with | some a => decide (a.kind ≠ 4) | none => false)
def noMd : Md := ⟨4, 0, 0, 0, 0, 0⟩
def nextM (l : List Md) (a : Md) : Md :=
 if a.kind = 0 then ⟨0, 0, 0, 0, 0, a.c⟩ else if a.kind = 1 ∧ 0 ≤ a.i ∧ a.i < 34 then ⟨1, a.i, 0, 0, 0, 0⟩
 else if a.kind = 2 ∧ (doW a.op 0 1).2 = true ∧ thereB l a.x = true ∧ thereB l a.y = true then ⟨2, 0, a.op, a.x, a.y, 0⟩
 else if a.kind = 3 ∧ thereB l a.x = true then ⟨3, 0, 0, a.x, 0, 0⟩ else noMd
def rval (v : List Nat) (acc : List (Option Nat)) (a : Md) : Option Nat :=
 if a.kind = 0 then some a.c else if a.kind = 1 then some (v[a.i.toNat]?.getD 0) else if a.kind = 2 then aluV a.op acc[a.x.toNat]?.join acc[a.y.toNat]?.join
 else if a.kind = 3 then (acc[a.x.toNat]?.join).map negW else none
def refs (v : List Nat) (l : List Md) : List (Option Nat) := l.foldl (fun acc a => acc ++ [rval v acc a]) []
section
variable {v : List Nat} {l : List Md}
theorem refs_snoc (l : List Md) (a : Md) : refs v (l ++ [a]) = refs v l ++ [rval v (refs v l) a] := by simp [refs]
theorem refs_len : ∀ l : List Md, (refs v l).length = l.length := by
 intro l
 have : ∀ (l : List Md) (acc : List (Option Nat)), (l.foldl (fun acc a => acc ++ [rval v acc a]) acc).length = acc.length + l.length := fun l => by
  induction l with
  | nil => intro acc; rfl
  | cons a l ih => intro acc; simp only [List.foldl_cons, ih]; simp; omega
 simpa [refs] using this l []
def mdOk (l : List Md) : Prop := ∀ (i : Nat) (a : Md), l[i]? = some a → a.c < 4294967296 ∧ (a.kind = 0 ∨ a.kind = 1 ∧ 0 ≤ a.i ∧ a.i < 34 ∨ a.kind = 2 ∧ 0 ≤ a.x ∧ a.x < i ∧ 0 ≤ a.y ∧ a.y < i ∨ a.kind = 3 ∧ 0 ≤ a.x ∧ a.x < i ∨ a.kind = 4)
end
end Go.Ev
/- Values made one by one. -/
namespace Go.Ev
open Go Go.RowKit
variable {G : Tbl}
set_option maxRecDepth 10000
set_option maxHeartbeats 4000000
set_option linter.unusedSimpArgs false
set_option linter.unusedVariables false
variable {H : Heap} {b z m : Nat} {L : List Nd}
def atI (l : List Int) (i : Int) : Int := if 0 ≤ i ∧ i < l.length then l[i.toNat]?.getD 0 else -1
structure MS where
 L : List Nd
 ids : List Int
 made : List Md
noncomputable def makeR (s : MS) (a : Md) : Int × List Nd :=
 if a.kind = 0 then putN s.L (sumNd (a.c :: zeros 34)) else if a.kind = 1 then varN s.L a.i else if a.kind = 2 then bAlu s.L a.op (atI s.ids a.x) (atI s.ids a.y)
 else if a.kind = 3 then bNeg s.L (atI s.ids a.x) else (-1, s.L)
noncomputable def makeS (s : MS) (a : Md) : MS := ⟨(makeR s a).2, s.ids ++ [(makeR s a).1], s.made ++ [nextM s.made a]⟩
theorem both_ext {kind : Int} {a c : Nd} (h : Inv L) (ha : a.wf) (hc : c.wf) : Ext L (bothN L kind a c).2.2 1 := by
 cases e1 : asB a with
 | none => simp only [bothN, e1, noR]; exact .refl h 1
 | some p =>
  cases e2 : asB c with
  | none => simp only [bothN, e1, e2, noR]; exact .refl h 1
  | some q =>
   cases e3 : bdo kind p q with
   | none => simp only [bothN, e1, e2, e3, noR]; exact .refl h 1
   | some r =>
    simp only [bothN, e1, e2, e3, okP]
    obtain ⟨_, hR, hw, _⟩ := bdo_some e3
    exact (bits_ext h hR hw).1
theorem deed_good {kind : Int} {x y n : Nat} (hk : (doW kind 0 1).2 = true) (hx : x < n) (hy : y < n) : (deedNd kind x y).good n :=
 ⟨⟨rfl, rfl, rfl⟩, ⟨zeros_lt 35, fun h => by cases h⟩, .inr (.inr ⟨rfl, hx, hy, hk⟩)⟩
theorem alu_ext {kind x y : Int} (h : Inv L) : Ext L (bAlu L kind x y).2 2 := by
 rw [bAlu]
 split
 case isFalse => exact .refl h 2
 rename_i hk
 obtain ⟨hk, hx, hy⟩ := hk
 obtain ⟨hx0, hx1⟩ : 0 ≤ x ∧ x < L.length := by simpa [hasI] using hx
 obtain ⟨hy0, hy1⟩ : 0 ≤ y ∧ y < L.length := by simpa [hasI] using hy
 obtain ⟨xn, rfl⟩ := Int.eq_ofNat_of_zero_le hx0
 obtain ⟨yn, rfl⟩ := Int.eq_ofNat_of_zero_le hy0
 obtain ⟨a, ha⟩ : ∃ a, L[xn]? = some a := ⟨_, get_in (by omega)⟩
 obtain ⟨c, hc⟩ : ∃ c, L[yn]? = some c := ⟨_, get_in (by omega)⟩
 have hga := h.good _ _ ha
 have hgc := h.good _ _ hc
 simp only [Int.toNat_natCast, ha, hc, bAlu2]
 have e1 := sums_ext (kind := kind) h hga.1 hgc.1 hga.2.1 hgc.2.1
 have e2 := both_ext (kind := kind) e1.inv hga.2.1 hgc.2.1
 have l1 := e1.pre.length_le
 split
 ·exact e1.mono (by omega)
 ·split
  ·exact e1.trans e2
  ·split
   ·exact e1.mono (by omega)
   ·split
    ·exact e1.mono (by omega)
    ·split
     ·exact e1.trans (put_ext e1.inv (deed_good hk (by omega) (by omega))).1
     ·exact e1.trans (put_ext e1.inv (deed_good hk (by omega) (by omega))).1
theorem var_ext {i : Int} (h : Inv L) : Ext L (varN L i).2 1 := by
 rw [varN]
 split
 ·exact (put_ext h (sum_good (varL_len _) (varL_lt _) _)).1
 ·exact .refl h 1
theorem neg_ext {x : Int} (h : Inv L) : Ext L (bNeg L x).2 3 := by
 rw [bNeg]
 split
 ·exact (zero_ext h).trans (alu_ext (zero_ext h).inv)
 ·exact .refl h 3
theorem make_ext {s : MS} {a : Md} (h : Inv s.L) (hc : a.c < 4294967296) : Ext s.L (makeS s a).L 3 := by
 show Ext s.L (makeR s a).2 3
 rw [makeR]
 split
 ·exact (put_ext h (sum_good (by simp) (const_lt hc) _)).1.mono (by omega)
 ·split
  ·exact (var_ext h).mono (by omega)
  ·split
   ·exact (alu_ext h).mono (by omega)
   ·split
    ·exact neg_ext h
    ·exact .refl h 3
noncomputable def makeAll (s : MS) (l : List Md) : MS := l.foldl makeS s
end Go.Ev
/- Numbers of sums, bits and deeds: plain laws. -/
namespace Go.Ev
open Go Go.RowKit
set_option maxRecDepth 10000
set_option maxHeartbeats 4000000
set_option linter.unusedSimpArgs false
set_option linter.unusedVariables false
variable {L : List Nd} {v : List Nat}
/-! Sums of multiples. -/
def dot : List Nat → List Nat → Int
 | a :: f, b :: v => a * b + dot f v
 | _, _ => 0
theorem dot_sum : ∀ (f v : List Nat), ((List.zipWith (· * ·) f v).sum : Nat) = dot f v
 | [], _ => by simp [dot]
 | _ :: _, [] => by simp [dot]
 | a :: f, b :: v => by
  have := dot_sum f v
  simp only [List.zipWith_cons_cons, List.sum_cons, dot]
  omega
theorem fEval_dot {c : Nat} {t : List Nat} (ht : t.length = 34) (hv : v.length = 34) : (fEval (c :: t) v : Int) = ((c : Int) + dot t v) % 4294967296 := by
 have e : (fSum (c :: t) v 34 : Int) = dot t v := by
  rw [fSum, List.drop_one, List.tail_cons, List.take_of_length_le (by simp [ht, hv]), dot_sum]
 rw [fEval, List.headD_cons]
 rw [← e]
 omega
def Cong (a b : Int) : Prop := ∃ k : Int, a = b + 4294967296 * k
theorem cong_mod (a : Nat) : ∃ q : Int, ((a % 4294967296 : Nat) : Int) = (a : Int) - 4294967296 * q := ⟨((a / 4294967296 : Nat) : Int), by omega⟩
theorem dot_add : ∀ (f g v : List Nat), f.length = g.length → Cong (dot (fAdd f g) v) (dot f v + dot g v)
 | [], [], v, _ => ⟨0, by simp [fAdd, dot]⟩
 | [], _ :: _, _, h => by simp at h
 | _ :: _, [], _, h => by simp at h
 | _ :: _, _ :: _, [], _ => ⟨0, by simp [fAdd, dot]⟩
 | a :: f, b :: g, x :: v, h => by
  obtain ⟨k, hk⟩ := dot_add f g v (by simpa using h)
  obtain ⟨q, hq⟩ := cong_mod (a + b)
  refine ⟨k - q * x, ?_⟩
  simp only [fAdd, List.zipWith_cons_cons, dot] at hk ⊢
  rw [hk, hq]
  simp only [Int.natCast_add]
  grind
theorem dot_sub : ∀ (f g v : List Nat), f.length = g.length → (∀ x ∈ g, x < 4294967296) → Cong (dot (fSub f g) v) (dot f v - dot g v)
 | [], [], v, _, _ => ⟨0, by simp [fSub, dot]⟩
 | [], _ :: _, _, h, _ => by simp at h
 | _ :: _, [], _, h, _ => by simp at h
 | _ :: _, _ :: _, [], _, _ => ⟨0, by simp [fSub, dot]⟩
 | a :: f, b :: g, x :: v, h, hg => by
  obtain ⟨k, hk⟩ := dot_sub f g v (by simpa using h) fun y hy => hg y (by simp [hy])
  obtain ⟨q, hq⟩ := cong_mod (a + 4294967296 - b)
  have hb := hg b (by simp)
  have e : ((a + 4294967296 - b : Nat) : Int) = (a : Int) + 4294967296 - b := by omega
  rw [e] at hq
  refine ⟨k - q * x + x, ?_⟩
  simp only [fSub, List.zipWith_cons_cons, dot] at hk ⊢
  rw [hk, hq]
  grind
theorem dot_mul (k : Nat) : ∀ (f v : List Nat), Cong (dot (fMul f k) v) (dot f v * k)
 | [], v => ⟨0, by simp [fMul, dot]⟩
 | _ :: _, [] => ⟨0, by simp [fMul, dot]⟩
 | a :: f, x :: v => by
  obtain ⟨j, hj⟩ := dot_mul k f v
  obtain ⟨q, hq⟩ := cong_mod (a * k)
  refine ⟨j - q * x, ?_⟩
  simp only [fMul, List.map_cons, dot] at hj ⊢
  rw [hj, hq]
  simp only [Int.natCast_mul]
  grind
theorem head_tail {f : List Nat} (hf : f.length = 35) : ∃ c t, f = c :: t ∧ t.length = 34 := by
 match f, hf with
 | c :: t, h => exact ⟨c, t, rfl, by simpa using h⟩
theorem fEval_add {f g : List Nat} (hf : f.length = 35) (hg : g.length = 35) (hv : v.length = 34) : fEval (fAdd f g) v = (fEval f v + fEval g v) % 4294967296 := by
 obtain ⟨c, t, rfl, ht⟩ := head_tail hf
 obtain ⟨d, u, rfl, hu⟩ := head_tail hg
 have e : fAdd (c :: t) (d :: u) = ((c + d) % 4294967296) :: fAdd t u := rfl
 have h1 := fEval_dot (c := c) ht hv
 have h2 := fEval_dot (c := d) hu hv
 have h3 := fEval_dot (c := (c + d) % 4294967296) (t := fAdd t u) (v := v) (by simp [fAdd, ht, hu]) hv
 obtain ⟨k, hk⟩ := dot_add t u v (by omega)
 rw [hk] at h3
 rw [e]
 omega
theorem fEval_sub {f g : List Nat} (hf : f.length = 35) (hg : g.length = 35) (hgw : ∀ x ∈ g, x < 4294967296) (hv : v.length = 34) : fEval (fSub f g) v = (fEval f v + 4294967296 - fEval g v) % 4294967296 := by
 obtain ⟨c, t, rfl, ht⟩ := head_tail hf
 obtain ⟨d, u, rfl, hu⟩ := head_tail hg
 have e : fSub (c :: t) (d :: u) = ((c + 4294967296 - d) % 4294967296) :: fSub t u := rfl
 have h1 := fEval_dot (c := c) ht hv
 have h2 := fEval_dot (c := d) hu hv
 have h3 := fEval_dot (c := (c + 4294967296 - d) % 4294967296) (t := fSub t u) (v := v) (by simp [fSub, ht, hu]) hv
 obtain ⟨k, hk⟩ := dot_sub t u v (by omega) fun x hx => hgw x (by simp [hx])
 have hd := hgw d (by simp)
 rw [hk] at h3
 rw [e]
 omega
theorem fEval_mul {f : List Nat} (k : Nat) (hf : f.length = 35) (hv : v.length = 34) : fEval (fMul f k) v = fEval f v * k % 4294967296 := by
 obtain ⟨c, t, rfl, ht⟩ := head_tail hf
 have e : fMul (c :: t) k = (c * k % 4294967296) :: fMul t k := rfl
 have h1 := fEval_dot (c := c) ht hv
 have h3 := fEval_dot (c := c * k % 4294967296) (t := fMul t k) (v := v) (by simp [fMul, ht]) hv
 obtain ⟨j, hj⟩ := dot_mul k t v
 obtain ⟨q, hq⟩ := cong_mod (c * k)
 rw [hj, hq] at h3
 rw [e]
 have h5 : (fEval (c * k % 4294967296 :: fMul t k) v : Int) = ((c + dot t v) * k) % 4294967296 := by
  rw [h3]
  have : ((c * k : Nat) : Int) - 4294967296 * q + (dot t v * k + 4294967296 * j) = (c + dot t v) * k + 4294967296 * (j - q) := by simp only [Int.natCast_mul]; grind
  rw [this, Int.add_mul_emod_self_left]
 have h6 : ((fEval (c :: t) v * k % 4294967296 : Nat) : Int) = ((c + dot t v) * k) % 4294967296 := by
  rw [Int.natCast_emod, Int.natCast_mul, h1, show ((4294967296 : Nat) : Int) = 4294967296 from rfl, Int.mul_emod, Int.emod_emod, ← Int.mul_emod]
 omega
theorem dot_zeros : ∀ (n : Nat) (v : List Nat), dot (zeros n) v = 0
 | 0, _ => by simp [zeros, dot]
 | n + 1, [] => by simp [zeros, List.replicate_succ, dot]
 | n + 1, x :: v => by
  have := dot_zeros n v
  simp only [zeros, List.replicate_succ, dot] at this ⊢
  omega
theorem fEval_const {c : Nat} (hc : c < 4294967296) (hv : v.length = 34) : fEval (c :: zeros 34) v = c := by
 have h := fEval_dot (c := c) (t := zeros 34) (v := v) (by simp) hv
 rw [dot_zeros] at h
 omega
theorem dot_one : ∀ (n i : Nat) (v : List Nat) (h : i < v.length), i < n → dot ((zeros n).set i 1) v = (v[i] : Nat)
 | 0, i, v, h, hi => by omega
 | n + 1, i, [], h, hi => by simp at h
 | n + 1, 0, x :: v, h, hi => by
  have := dot_zeros n v
  simp only [zeros, List.replicate_succ, List.set_cons_zero, dot, List.getElem_cons_zero] at this ⊢
  omega
 | n + 1, i + 1, x :: v, h, hi => by
  have := dot_one n i v (by simpa using h) (by omega)
  simp only [zeros, List.replicate_succ, List.set_cons_succ, dot, List.getElem_cons_succ] at this ⊢
  omega
theorem fEval_var {i : Nat} (hi : i < 34) (hv : v.length = 34) (hw : ∀ x ∈ v, x < 4294967296) : fEval (varL i) v = v[i]'(by omega) := by
 have e : varL i = 0 :: (zeros 34).set i 1 := rfl
 have h := fEval_dot (c := 0) (t := (zeros 34).set i 1) (v := v) (by simp) hv
 have h2 := hw _ (List.getElem_mem (show i < v.length by omega))
 rw [dot_one 34 i v (by omega) hi] at h
 rw [e]
 omega
end Go.Ev
/- What arithmetic in a book comes to: plain laws. -/
namespace Go.Ev
open Go Go.RowKit
set_option maxRecDepth 10000
set_option maxHeartbeats 4000000
set_option linter.unusedSimpArgs false
set_option linter.unusedVariables false
variable {L L' : List Nd} {v : List Nat}
theorem val_const {c : Nat} (hc : c < 4294967296) (r : Int → Nat) : val [] [c] r = c := by
 rw [val, ← wordOf_self (w := c) hc]
 exact wordOf_ext fun i hi => by simp [sem, idx, wordOf_self (w := c) hc]
theorem val_var (i : Int) (r : Int → Nat) (hr : r i < 4294967296) : val [i] [0, ones] r = r i := by
 rw [val, ← wordOf_self (w := r i) hr]
 refine wordOf_ext fun j hj => ?_
 have e : ones.testBit j = true := by rw [ones, show 4294967295 = 2 ^ 32 - 1 from rfl, Nat.testBit_two_pow_sub_one]; simpa using hj
 cases h : (r i).testBit j <;> simp [sem, idx, h, e]
theorem xor_full {a : Nat} (ha : a < 4294967296) : a ^^^ ones = 4294967295 - a := by
 refine Nat.eq_of_testBit_eq fun j => ?_
 rw [Nat.testBit_xor, ones, show 4294967295 = 2 ^ 32 - 1 from rfl, Nat.testBit_two_pow_sub_one, show 2 ^ 32 - 1 - a = 2 ^ 32 - (a + 1) by omega, Nat.testBit_two_pow_sub_succ ha]
 by_cases hj : j < 32
 ·simp [hj]
 ·simp only [hj, decide_false, Bool.false_and, Bool.xor_false]
  exact Nat.testBit_lt_two_pow (Nat.lt_of_lt_of_le ha (Nat.pow_le_pow_right (n := 2) (i := 32) (by decide) (by omega)))
theorem val_not (i : Int) (r : Int → Nat) (hr : r i < 4294967296) : val [i] [ones, 0] r = 4294967295 - r i := by
 have h := val_do (kind := 164) (fv := [i]) (gv := []) (vs := [i]) (ft := [0, ones]) (gt := [ones]) (tab := [ones, 0]) (.inr (.inr rfl)) (fun p => by cases h : p i <;> simp [sem, idx, h, doW, ones]) r
 rw [val_var i r hr, val_const (by decide)] at h
 simp only [doW] at h
 rw [h]
 simp
 exact xor_full hr
theorem fConst_eq {f : List Nat} {c : Nat} (hf : f.length = 35) (h : fConst f = some c) : f = c :: zeros 34 := by
 obtain ⟨d, t, rfl, ht⟩ := head_tail hf
 rw [fConst] at h
 split at h
 ·rename_i e
  cases h
  rw [← e]; rfl
 ·cases h
theorem fOne_eq {f : List Nat} {i : Nat} (h : fOne f = some i) : f = varL i := by
 have := List.find?_some h
 simpa using this
theorem valI_nat (i : Nat) : valI v L i = (vals v L)[i]?.join := by
 rw [valI]
 by_cases h : i < L.length
 ·have : hasI L i = true := by simp [hasI]; exact h
  rw [if_pos this]; rfl
 ·have : ¬ hasI L i = true := by simp [hasI]; omega
  rw [if_neg this, List.getElem?_eq_none (by rw [vals_len]; omega)]; rfl
theorem nval_pre {a : Nd} {i : Nat} (ha : a.good i) (hl : i ≤ L.length) : nval v (vals v (L.take i)) a = nval v (vals v L) a := by
 rw [nval, nval]
 split
 ·rfl
 ·split
  ·rfl
  ·rcases ha.2.2 with h | h | ⟨_, hx, hy, _⟩
   ·contradiction
   ·contradiction
   ·rw [← vals_take, List.getElem?_take, if_pos hx, List.getElem?_take, if_pos hy]
theorem valI_at {i : Nat} {a : Nd} (h : Inv L) (ha : L[i]? = some a) : valI v L i = nval v (vals v L) a := by
 rw [valI_nat, vals_at ha, nval_pre (h.good i a ha) (by have := (List.getElem?_eq_some_iff.1 ha).1; omega)]
 rfl
theorem valI_ext {k i : Nat} (h : Ext L L' k) (hi : i < L.length) : valI v L' i = valI v L i := by
 rw [valI_nat, valI_nat, pre_get (vals_pre h.pre) (get_in (by rw [vals_len]; exact hi)), get_in (by rw [vals_len]; exact hi)]
theorem nval_asB {a : Nd} {p : List Int × List Nat} {acc : List (Option Nat)} (ha : a.ok) (haw : a.wf) (hp : asB a = some p) (hv : v.length = 34) (hw : ∀ x ∈ v, x < 4294967296) : nval v acc a = some (val p.1 p.2 (asg v)) := by
 by_cases h1 : a.kind = 1
 ·rw [nval, if_neg (by omega), if_pos h1, hp]; rfl
 ·have h0 : a.kind = 0 := by
   by_cases h0 : a.kind = 0
   ·exact h0
   ·rw [asB, if_neg h1, if_neg h0] at hp; cases hp
  have hg : ∀ (i : Nat) (h : i < 34), asg v (i : Int) = v[i]'(by omega) := fun i h => by
   rw [asg, Int.toNat_natCast, List.getD_eq_getElem?_getD, get_in (by omega)]; rfl
  have hgl : ∀ i : Nat, i < 34 → asg v (i : Int) < 4294967296 := fun i h => by rw [hg i h]; exact hw _ (List.getElem_mem _)
  rw [nval, if_pos h0]
  rw [asB, if_neg h1, if_pos h0] at hp
  congr 1
  split at hp
  ·rename_i c hc
   cases hp
   have hlt := fConst_lt hc haw.1
   rw [fConst_eq ha.1 hc, fEval_const hlt hv, val_const hlt]
  ·split at hp
   ·rename_i i hi
    cases hp
    have hl := fOne_lt hi
    rw [fOne_eq hi, fEval_var hl hv hw, val_var _ _ (hgl i hl), hg i hl]
   ·split at hp
    ·rename_i i hi
     cases hp
     have hl := fOne_lt hi
     have e := congrArg (fEval · v) (fOne_eq hi)
     rw [fEval_sub (by simp) ha.1 haw.1 hv, fEval_var hl hv hw, fEval_const (by decide) hv] at e
     have hb := fEval_lt a.f v
     rw [val_not _ _ (hgl i hl), hg i hl, ← e]
     simp only [ones]
     omega
    ·cases hp
def Res (v : List Nat) (p : Int × List Nd) (o : Option Nat) : Prop := ∃ i : Nat, p.1 = i ∧ i < p.2.length ∧ valI v p.2 i = o
theorem put_res {a : Nd} (h : Inv L) (ha : a.good L.length) : Res v (putN L a) (nval v (vals v L) a) := by
 obtain ⟨e, i, h1, h2⟩ := put_ext h ha
 refine ⟨i, h1, (List.getElem?_eq_some_iff.1 h2).1, ?_⟩
 rw [valI_at e.inv h2]
 have : L = (putN L a).2.take L.length := by
  obtain ⟨t, ht⟩ := e.pre
  rw [← ht, List.take_left' rfl]
 conv => rhs; rw [this]
 rw [nval_pre ha e.pre.length_le]
theorem sum_res {f : List Nat} (h : Inv L) (hf : f.length = 35) (hw : ∀ c ∈ f, c < 4294967296) : Res v (putN L (sumNd f)) (some (fEval f v)) := put_res h (sum_good hf hw _)
theorem bits_res {fv : List Int} {ft : List Nat} (h : Inv L) (hR : Right fv ft) (hw : ∀ c ∈ ft, c < 4294967296) (hv : v.length = 34) (hvw : ∀ x ∈ v, x < 4294967296) : Res v (bitsN L fv ft) (some (val fv ft (asg v))) := by
 obtain ⟨e, i, a, h1, h2, h3⟩ := bits_ext h hR hw
 refine ⟨i, h1, (List.getElem?_eq_some_iff.1 h2).1, ?_⟩
 have hg := e.inv.good i a h2
 rw [valI_at e.inv h2, nval_asB hg.1 hg.2.1 h3 hv hvw]
theorem aluV_some {kind : Int} {a c : Nat} (h : (doW kind a c).2 = true) : aluV kind (some a) (some c) = some (doW kind a c).1 := by rw [aluV]; simp only [h, if_true]
theorem doW_const_lsh {k : Nat} : (doW 100 1 k).1 = 2 ^ (k % 32) % 4294967296 := by simp [doW]
theorem sums_res {kind : Int} {a c : Nd} (h : Inv L) (ha : a.ok) (hc : c.ok) (haw : a.wf) (hcw : c.wf) (hv : v.length = 34) (ht : (sumsN L kind a c).2.1 = true) :
  a.kind = 0 ∧ c.kind = 0 ∧ Res v ((sumsN L kind a c).1, (sumsN L kind a c).2.2) (aluV kind (some (fEval a.f v)) (some (fEval c.f v))) := by
 rw [sumsN] at ht ⊢
 split at ht
 case isFalse => simp [noR] at ht
 rename_i hk
 rw [if_pos hk]
 refine ⟨hk.1, hk.2, ?_⟩
 have conv : ∀ (f : List Nat) (n : Nat), f.length = 35 → (∀ c ∈ f, c < 4294967296) → fEval f v = n → (doW kind (fEval a.f v) (fEval c.f v)).2 = true → (doW kind (fEval a.f v) (fEval c.f v)).1 = n →
   Res v ((okP (putN L (sumNd f))).1, (okP (putN L (sumNd f))).2.2) (aluV kind (some (fEval a.f v)) (some (fEval c.f v))) := fun f n hf hw e h1 h2 => by
  rw [aluV_some h1, h2, ← e]
  exact sum_res h hf hw
 by_cases k4 : kind = 4
 ·simp only [k4, if_true] at ht ⊢
  subst k4
  exact conv _ _ (fAdd_len ha.1 hc.1) (fAdd_lt _ _) (fEval_add ha.1 hc.1 hv) (by simp [doW]) (by simp [doW])
 by_cases k20 : kind = 20
 ·simp only [k4, k20, if_true, if_false] at ht ⊢
  subst k20
  exact conv _ _ (fSub_len ha.1 hc.1) (fSub_lt _ _) (fEval_sub ha.1 hc.1 hcw.1 hv) (by simp [doW]) (by simp [doW])
 simp only [k4, k20, if_false] at ht ⊢
 have mul : ∀ k, fConst c.f = some k → kind = 36 → Res v ((okP (putN L (sumNd (fMul a.f k)))).1, (okP (putN L (sumNd (fMul a.f k)))).2.2) (aluV kind (some (fEval a.f v)) (some (fEval c.f v))) := fun k ek k36 => by
  have hlt := fConst_lt ek hcw.1
  have ec : fEval c.f v = k := by rw [fConst_eq hc.1 ek, fEval_const hlt hv]
  subst k36
  exact conv _ _ (fMul_len _ ha.1) (fMul_lt _ _) (fEval_mul k ha.1 hv) (by simp [doW]) (by rw [ec]; simp [doW])
 have lsh : ∀ k, fConst c.f = some k → kind = 100 → Res v ((okP (putN L (sumNd (fMul a.f (doW 100 1 k).1)))).1, (okP (putN L (sumNd (fMul a.f (doW 100 1 k).1)))).2.2) (aluV kind (some (fEval a.f v)) (some (fEval c.f v))) := fun k ek k100 => by
  have hlt := fConst_lt ek hcw.1
  have ec : fEval c.f v = k := by rw [fConst_eq hc.1 ek, fEval_const hlt hv]
  subst k100
  refine conv _ _ (fMul_len _ ha.1) (fMul_lt _ _) (fEval_mul _ ha.1 hv) (by simp [doW]) ?_
  rw [ec, doW_const_lsh]
  simp [doW, Nat.mul_mod]
 split at ht
 ·rename_i u k eu ek
  try simp only [eu, ek]
  split at ht
  ·rename_i k36
   rw [if_pos k36]
   exact mul k ek k36
  ·rename_i k36
   rw [if_neg k36]
   split at ht
   ·rename_i k100
    rw [if_pos k100]
    exact lsh k ek k100
   ·rename_i k100
    rw [if_neg k100]
    simp only at ht
    have hu := fConst_lt eu haw.1
    have hk' := fConst_lt ek hcw.1
    have e1 : fEval a.f v = u := by rw [fConst_eq ha.1 eu, fEval_const hu hv]
    have e2 : fEval c.f v = k := by rw [fConst_eq hc.1 ek, fEval_const hk' hv]
    have hlt := doW32 kind hu hk'
    rw [e1, e2, aluV_some ht]
    have := sum_res (v := v) h (f := (doW kind u k).1 :: zeros 34) (by simp) (const_lt hlt)
    rwa [fEval_const hlt hv] at this
 ·rename_i k eu ek
  try simp only [eu, ek]
  split at ht
  ·rename_i k36
   rw [if_pos k36]
   exact mul k ek k36
  ·rename_i k36
   rw [if_neg k36]
   split at ht
   ·rename_i k100
    rw [if_pos k100]
    exact lsh k ek k100
   ·simp [noR] at ht
 ·rename_i u eu ek
  try simp only [eu, ek]
  split at ht
  ·rename_i k36
   rw [if_pos k36]
   have hu := fConst_lt eu haw.1
   have e1 : fEval a.f v = u := by rw [fConst_eq ha.1 eu, fEval_const hu hv]
   subst k36
   refine conv _ _ (fMul_len _ hc.1) (fMul_lt _ _) (fEval_mul u hc.1 hv) (by simp [doW]) ?_
   rw [e1]; simp [doW, Nat.mul_comm]
  ·simp [noR] at ht
 ·simp [noR] at ht
theorem both_res {kind : Int} {a c : Nd} (h : Inv L) (ha : a.wf) (hc : c.wf) (hv : v.length = 34) (hvw : ∀ x ∈ v, x < 4294967296) (ht : (bothN L kind a c).2.1 = true) :
  ∃ p q, asB a = some p ∧ asB c = some q ∧ Res v ((bothN L kind a c).1, (bothN L kind a c).2.2) (aluV kind (some (val p.1 p.2 (asg v))) (some (val q.1 q.2 (asg v)))) := by
 cases e1 : asB a with
 | none => simp [bothN, e1, noR] at ht
 | some p =>
  cases e2 : asB c with
  | none => simp [bothN, e1, e2, noR] at ht
  | some q =>
   cases e3 : bdo kind p q with
   | none => simp [bothN, e1, e2, e3, noR] at ht
   | some r =>
    refine ⟨p, q, rfl, rfl, ?_⟩
    simp only [bothN, e1, e2, e3, okP]
    obtain ⟨hok, hR, hw, hs⟩ := bdo_some e3
    have hd : ∀ x y, (doW kind x y).2 = true := fun x y => by rcases hok.1 with rfl | rfl | rfl <;> simp [doW]
    rw [aluV_some (hd _ _), ← val_do hok.1 hs]
    exact bits_res h hR hw hv hvw
theorem and_full {a : Nat} (ha : a < 4294967296) : a &&& 4294967295 = a := by
 rw [show 4294967295 = 2 ^ 32 - 1 from rfl, Nat.and_two_pow_sub_one_eq_mod]
 exact Nat.mod_eq_of_lt ha
theorem plain_res {kind : Int} {c : Nd} {x y : Int} {ox oy : Option Nat} (hx : ∀ w, ox = some w → w < 4294967296) (hc : c.ok) (hcw : c.wf) (hv : v.length = 34) (hy : c.kind = 0 → oy = some (fEval c.f v)) (hxy : x = y → ox = oy)
  (ht : (plainN kind (constA c) x y).2 = true) : (plainN kind (constA c) x y).1 = x ∧ ox = aluV kind ox oy := by
 have hk : ∀ k, constA c = some k → oy = some k := fun k hk => by
  rw [constA] at hk
  split at hk
  ·rename_i k0
   rw [hy k0, fConst_eq hc.1 hk, fEval_const (fConst_lt hk hcw.1) hv]
  ·cases hk
 have zero : constA c = some 0 → (∀ w, w < 4294967296 → doW kind w 0 = (w, true)) → ox = aluV kind ox oy := fun h0 hd => by
  rw [hk 0 h0]
  cases ox with
  | none => rfl
  | some w => simp only [aluV, hd w (hx w rfl), if_true]
 have same : x = y → (∀ w, w < 4294967296 → doW kind w w = (w, true)) → ox = aluV kind ox oy := fun h0 hd => by
  rw [← hxy h0]
  cases ox with
  | none => rfl
  | some w => simp only [aluV, hd w (hx w rfl), if_true]
 rw [plainN] at ht ⊢
 split at ht
 ·rename_i hkk
  rw [if_pos hkk]
  refine ⟨rfl, zero (by simpa using ht) fun w hw => ?_⟩
  rcases hkk with rfl | rfl | rfl | rfl <;> simp [doW] <;> omega
 ·rename_i h1
  rw [if_neg h1]
  split at ht
  ·rename_i h2
   rw [if_pos h2]
   subst h2
   refine ⟨rfl, ?_⟩
   simp at ht
   rcases ht with h | h
   ·exact zero h fun w hw => by simp [doW]
   ·exact same h fun w hw => by simp [doW]
  ·rename_i h2
   rw [if_neg h2]
   split at ht
   ·rename_i h3
    rw [if_pos h3]
    subst h3
    exact ⟨rfl, zero (by simpa using ht) fun w hw => by simp [doW]⟩
   ·rename_i h3
    rw [if_neg h3]
    split at ht
    ·rename_i h4
     rw [if_pos h4]
     subst h4
     refine ⟨rfl, ?_⟩
     simp at ht
     rcases ht with h | h
     ·rw [hk _ h]
      cases ox with
      | none => rfl
      | some w => simp [aluV, doW, ones, and_full (hx w rfl)]
     ·exact same h fun w hw => by simp [doW]
    ·simp at ht
theorem doW_swap {kind : Int} (h : swapsB kind = true) (a b : Nat) : doW kind a b = doW kind b a := by
 simp [swapsB] at h
 obtain ⟨h1, h2, h3, h4⟩ := h
 simp only [doW, h1, h2, h3, h4, if_false, Nat.add_comm a b, Nat.mul_comm a b, Nat.or_comm a b, Nat.and_comm a b, Nat.xor_comm a b]
theorem aluV_swap {kind : Int} (h : swapsB kind = true) (o o' : Option Nat) : aluV kind o o' = aluV kind o' o := by
 cases o <;> cases o' <;> simp [aluV]
 rw [doW_swap h]
theorem valI_lt {i : Nat} {w : Nat} (h : Inv L) (hw : valI v L i = some w) : w < 4294967296 := by
 rw [valI_nat] at hw
 cases e : (vals v L)[i]? with
 | none => rw [e] at hw; cases hw
 | some o =>
  rw [e] at hw
  have := vals_lt (k := L.length) (o := o) (i := i) h (by rw [List.take_length]; exact e)
  rw [show o = some w from hw] at this
  exact this
theorem alu_res {kind x y : Int} (h : Inv L) (hv : v.length = 34) (hvw : ∀ c ∈ v, c < 4294967296) (hk : (doW kind 0 1).2 = true) (hx : hasI L x = true) (hy : hasI L y = true) :
  Res v (bAlu L kind x y) (aluV kind (valI v L x) (valI v L y)) := by
 rw [bAlu, if_pos ⟨hk, hx, hy⟩]
 obtain ⟨hx0, hx1⟩ : 0 ≤ x ∧ x < L.length := by simpa [hasI] using hx
 obtain ⟨hy0, hy1⟩ : 0 ≤ y ∧ y < L.length := by simpa [hasI] using hy
 obtain ⟨xn, rfl⟩ := Int.eq_ofNat_of_zero_le hx0
 obtain ⟨yn, rfl⟩ := Int.eq_ofNat_of_zero_le hy0
 obtain ⟨a, ha⟩ : ∃ a, L[xn]? = some a := ⟨_, get_in (by omega)⟩
 obtain ⟨c, hc⟩ : ∃ c, L[yn]? = some c := ⟨_, get_in (by omega)⟩
 have hga := h.good _ _ ha
 have hgc := h.good _ _ hc
 simp only [Int.toNat_natCast, ha, hc]
 have e1 := sums_ext (kind := kind) h hga.1 hgc.1 hga.2.1 hgc.2.1
 obtain ⟨L1, hL1⟩ : ∃ L1, L1 = (sumsN L kind a c).2.2 := ⟨_, rfl⟩
 rw [← hL1] at e1
 have l1 := e1.pre.length_le
 have vx := valI_at (v := v) h ha
 have vy := valI_at (v := v) h hc
 have vx1 := valI_ext (v := v) e1 (i := xn) (by omega)
 have vy1 := valI_ext (v := v) e1 (i := yn) (by omega)
 have e2 := both_ext (kind := kind) e1.inv hga.2.1 hgc.2.1
 rw [bAlu2]
 simp only [← hL1]
 split
 ·rename_i ht
  obtain ⟨k1, k2, hr⟩ := sums_res (v := v) h hga.1 hgc.1 hga.2.1 hgc.2.1 hv ht
  rw [vx, vy, nval, if_pos k1, nval, if_pos k2, hL1]
  exact hr
 ·split
  ·rename_i ht
   obtain ⟨p, q, hp, hq, hr⟩ := both_res (v := v) e1.inv hga.2.1 hgc.2.1 hv hvw ht
   rw [vx, vy, nval_asB hga.1 hga.2.1 hp hv hvw, nval_asB hgc.1 hgc.2.1 hq hv hvw]
   exact hr
  ·have kx : a.kind = 0 → valI v L xn = some (fEval a.f v) := fun k => by rw [vx, nval, if_pos k]
   have ky : c.kind = 0 → valI v L yn = some (fEval c.f v) := fun k => by rw [vy, nval, if_pos k]
   split
   ·rename_i ht
    obtain ⟨h1, h2⟩ := plain_res (v := v) (x := (xn : Int)) (y := (yn : Int)) (fun w hw => valI_lt h hw) hgc.1 hgc.2.1 hv ky (fun e => by rw [e]) ht
    refine ⟨xn, h1, by show xn < L1.length; omega, ?_⟩
    rw [← h2]
    exact vx1
   ·split
    ·rename_i ht
     obtain ⟨h1, h2⟩ := plain_res (v := v) (x := (yn : Int)) (y := (xn : Int)) (fun w hw => valI_lt h hw) hga.1 hga.2.1 hv kx (fun e => by rw [e]) ht.2
     refine ⟨yn, h1, by show yn < L1.length; omega, ?_⟩
     rw [aluV_swap ht.1, ← h2]
     exact vy1
    ·have deed : ∀ u w : Nat, u < L.length → w < L.length → Res v (putN L1 (deedNd kind u w)) (aluV kind (valI v L u) (valI v L w)) := fun u w hu hw => by
      have := put_res (v := v) e1.inv (deed_good (kind := kind) (x := u) (y := w) hk (by omega) (by omega))
      have e : nval v (vals v L1) (deedNd kind u w) = aluV kind (valI v L u) (valI v L w) := by
       rw [← valI_ext (v := v) e1 hu, ← valI_ext (v := v) e1 hw, valI_nat, valI_nat]; rfl
      rwa [e] at this
     split
     ·rename_i ht
      rw [aluV_swap ht.1]
      exact deed yn xn (by omega) (by omega)
     ·exact deed xn yn (by omega) (by omega)
theorem var_res {i : Int} (h : Inv L) (hv : v.length = 34) (hvw : ∀ c ∈ v, c < 4294967296) (h0 : 0 ≤ i) (h1 : i < 34) : Res v (varN L i) (some (v[i.toNat]?.getD 0)) := by
 rw [varN, if_pos ⟨h0, h1⟩]
 have := sum_res (v := v) h (varL_len i.toNat) (varL_lt _)
 rw [fEval_var (by omega) hv hvw] at this
 rw [get_in (by omega)]
 exact this
theorem const_res {c : Nat} (h : Inv L) (hv : v.length = 34) (hc : c < 4294967296) : Res v (putN L (sumNd (c :: zeros 34))) (some c) := by
 have := sum_res (v := v) h (f := c :: zeros 34) (by simp) (const_lt hc)
 rwa [fEval_const hc hv] at this
theorem neg_res {x : Int} (h : Inv L) (hv : v.length = 34) (hvw : ∀ c ∈ v, c < 4294967296) (hx : hasI L x = true) : Res v (bNeg L x) ((valI v L x).map negW) := by
 rw [bNeg, if_pos hx]
 obtain ⟨hx0, hx1⟩ : 0 ≤ x ∧ x < L.length := by simpa [hasI] using hx
 obtain ⟨xn, rfl⟩ := Int.eq_ofNat_of_zero_le hx0
 have e := zero_ext h
 obtain ⟨i, h1, h2, h3⟩ := const_res (v := v) h hv (c := 0) (by decide)
 have hl := e.pre.length_le
 have r := alu_res (v := v) (kind := 20) (x := (negN' L).1) (y := (xn : Int)) e.inv hv hvw (by decide) (by rw [negN', h1]; simp [hasI]; exact h2) (by simp [hasI]; omega)
 have e1 : valI v (negN' L).2 (negN' L).1 = some 0 := by rw [negN', h1]; exact h3
 rw [e1, valI_ext e (by omega)] at r
 have e2 : aluV 20 (some 0) (valI v L xn) = (valI v L xn).map negW := by
  cases valI v L xn with
  | none => rfl
  | some w => simp [aluV, doW, negW]
 rwa [e2] at r
end Go.Ev
/- Which instructions are a window: window.Right, hurdleref17.Right; and hurdleref03.Same. -/
namespace Go.Ev
open Go Go.RowKit
variable {G : Tbl}
set_option maxRecDepth 10000
set_option maxHeartbeats 2000000
set_option linter.unusedSimpArgs false
set_option linter.unusedVariables false
def RET : In4 := ⟨22, 0, 0, 0⟩
@[simp] theorem cs_take4 (x : In4) : x.cs.take 4 = x.cs := rfl
theorem aeq4 (x y : In4) : eqks [.int, .int, .int, .int] x.cs y.cs = some (decide (x = y)) := by
 obtain ⟨a, b, c, d⟩ := x
 obtain ⟨a', b', c', d'⟩ := y
 simp only [In4.cs, eqks, eqk, if_true, Bool.and_true, Option.some.injEq, In4.mk.injEq]
 rw [Bool.eq_iff_iff]
 simp only [Bool.and_eq_true, beq_iff_eq, decide_eq_true_eq]
 omega
theorem Same03_ok [HasR3 G] (f g : List In4) (hf : f.length ≤ 1000000) : FP G 201 [FL f, FL g] (.bool (decide (f = g))) := by
 refine FP_of HasR3.h_hurdleref03_Same (Nat.le_of_ble_eq_true rfl) ?_
 by_cases hl : f.length = g.length
 ·have hz : ((f.length : Int) != (g.length : Int)) = false := by simp [hl]
  simp [FL, hz]
  refine W_up f.length (fun i => [(0, FL f), (1, FL g), (5, .int .i64 i)]) (fun _ => []) (fun i => f.take i = g.take i) ?_ ?_
  ·simp [keep_cl, trunc, FL]
  intro i hi hp
  by_cases hlt : i < f.length
  ·obtain ⟨x, hfx⟩ : ∃ x, x = f[i] := ⟨_, rfl⟩
   have hlt2 : i < g.length := by omega
   obtain ⟨y, hfy⟩ : ∃ y, y = g[i] := ⟨_, rfl⟩
   have hgg := FL_get hlt
   have hgg2 := FL_get hlt2
   rw [← hfx] at hgg
   rw [← hfy] at hgg2
   have hfx := hfx.symm
   have hfy := hfy.symm
   have ha := aeq4 x y
   by_cases hxy : x = y
   ·rw [decide_eq_true hxy] at ha
    have hp' : f.take (i + 1) = g.take (i + 1) := by
     rw [List.take_add_one, List.take_add_one, hp, List.getElem?_eq_getElem hlt, List.getElem?_eq_getElem hlt2, hfx, hfy, hxy]
    simp (disch := omega) [ltT, FL, hgg, hgg2, hfx, hfy, ha, hlt, add1', keep_cl, trunc, hp', -Int.natCast_add]
   ·rw [decide_eq_false hxy] at ha
    have hne : ¬ f = g := by
     rintro rfl
     exact hxy (hfx.symm.trans hfy)
    simp (disch := omega) [ltT, FL, hgg, hgg2, hfx, hfy, ha, hne, -Int.natCast_add]
  ·have hne : i = f.length := by omega
   subst hne
   rw [List.take_length, hl, List.take_length] at hp
   simp [FL, hp]
 ·have hz : ((f.length : Int) != (g.length : Int)) = true := by simp; omega
  have : ¬ f = g := fun h => hl (by rw [h])
  simp [FL, hz, this]
end Go.Ev
/- The values behind an instruction of a window. -/
namespace Go.Ev
open Go Go.RowKit
variable {G : Tbl}
set_option maxRecDepth 10000
set_option maxHeartbeats 4000000
set_option linter.unusedSimpArgs false
set_option linter.unusedVariables false
variable {H : Heap} {b z m : Nat} {L : List Nd}
structure VS where
 L : List Nd
 p : List Int
 st : List Int
section
variable {p st : List Int} {tk : Tk}
end
theorem Bk.setz {z2 k n : Nat} (h : Bk H b z m L) (h2 : H[z2]? = some (some (.zone k))) (hne : z2 ≠ z) : Bk (H.set z2 (some (.zone n))) b z m L := by
 have e1 : z2 ≠ b := fun e => by rw [e, h.hb] at h2; simp [bookC] at h2
 have e2 : z2 ≠ m := fun e => by rw [e, h.hm] at h2; simp at h2
 refine ⟨by rw [List.getElem?_set_ne e1]; exact h.hb, by rw [List.getElem?_set_ne hne]; exact h.hz, by rw [List.getElem?_set_ne e2]; exact h.hm, fun n hn => ?_, h.ok, h.small⟩
 rw [List.length_set] at hn
 rw [map_set', h.shut n hn]
 rfl
section
variable {α : Type} {H l : List α} {n : Nat} (h : H.length = n)
include h
end
end Go.Ev
/- The values of a window. -/
namespace Go.Ev
open Go Go.RowKit
variable {G : Tbl}
set_option maxRecDepth 10000
set_option maxHeartbeats 1000000
set_option linter.unusedSimpArgs false
set_option linter.unusedVariables false
variable {H : Heap} {b z m : Nat} {L : List Nd}
structure VOk (L : List Nd) (s : VS) (k n : Nat) : Prop where
 ext : Ext L s.L k
 len : s.p.length = 18
 st : s.st.length ≤ n
end Go.Ev
/- Records with another word; and branches whose ways are swapped. -/
namespace Go.Ev
open Go Go.RowKit
variable {G : Tbl}
set_option maxRecDepth 10000
set_option maxHeartbeats 2000000
set_option linter.unusedSimpArgs false
set_option linter.unusedVariables false
def two (w : List Nat) (i : Nat) : Nat := w.getD i 0 + w.getD (i + 1) 0 * 4294967296
def ofW (w : List Nat) : Da := ⟨w.getD 0 0, w.getD 1 0, two w 2, (List.range 6).map fun i => two w (4 + 2 * i)⟩
end Go.Ev
/- Windows that are run, and their variables' numbers: plain. -/
namespace Go.Ev
open Go Go.RowKit
variable {G : Tbl}
set_option maxRecDepth 10000
set_option maxHeartbeats 2000000
set_option linter.unusedSimpArgs false
set_option linter.unusedVariables false
def runW (d : Da) : List In4 → St → St × Nat
 | [], s => (s, 0)
 | x :: w, s => if (stepS s x d).2 then ((runW d w (stepS s x d).1).1, (runW d w (stepS s x d).1).2 + 1) else (s, 0)
def stO (v : List Nat) : St := ⟨v.getD 0 0, v.getD 1 0, (v.drop 2).take 16⟩
end Go.Ev
/- A window's values are what it makes of a state: plain laws. -/
namespace Go.Ev
open Go Go.RowKit
set_option maxRecDepth 10000
set_option maxHeartbeats 1000000
set_option linter.unusedSimpArgs false
set_option linter.unusedVariables false
variable {L L' : List Nd} {v : List Nat}
theorem hasI_nat {n : Nat} (h : n < L.length) : hasI L (n : Int) = true := by simp [hasI]; exact h
theorem valI_extI {k : Nat} {x : Int} (e : Ext L L' k) (h : hasI L x = true) : hasI L' x = true ∧ valI v L' x = valI v L x := by
 obtain ⟨h0, h1⟩ : 0 ≤ x ∧ x < L.length := by simpa [hasI] using h
 obtain ⟨n, rfl⟩ := Int.eq_ofNat_of_zero_le h0
 have := e.pre.length_le
 exact ⟨hasI_nat (by omega), valI_ext e (by omega)⟩
theorem Res.has {q : Int × List Nd} {o : Option Nat} (h : Res v q o) : hasI q.2 q.1 = true ∧ valI v q.2 q.1 = o := by
 obtain ⟨n, h1, h2, h3⟩ := h
 rw [h1]
 exact ⟨hasI_nat h2, h3⟩
def pt (t : St) : List Nat := t.a :: t.x :: t.m
structure PV (v : List Nat) (L : List Nd) (p : List Int) (t : St) : Prop where
 len : p.length = 18
 val : ∀ i, i < 18 → hasI L (p.getD i 0) = true ∧ valI v L (p.getD i 0) = some ((pt t).getD i 0)
theorem PV.set {p : List Int} {t t' : St} {k i n : Nat} {x : Int} (h : PV v L p t) (e : Ext L L' k) (hx : hasI L' x = true) (hv : valI v L' x = some n) (hi : i < 18) (hl : (pt t).length = 18) (ht : pt t' = (pt t).set i n) : PV v L' (p.set i x) t' := by
 refine ⟨by rw [List.length_set]; exact h.len, fun j hj => ?_⟩
 rw [ht, List.getD_eq_getElem?_getD, List.getD_eq_getElem?_getD, List.getElem?_set, List.getElem?_set]
 by_cases hij : i = j
 ·subst hij
  simp only [if_true, h.len, hl, hi, Option.getD_some]
  exact ⟨hx, hv⟩
 ·simp only [hij, if_false, ← List.getD_eq_getElem?_getD]
  obtain ⟨h1, h2⟩ := h.val j hj
  obtain ⟨h3, h4⟩ := valI_extI (v := v) e h1
  exact ⟨h3, by rw [h4, h2]⟩
theorem PV.same {p : List Int} {t : St} {k : Nat} (h : PV v L p t) (e : Ext L L' k) : PV v L' p t :=
 ⟨h.len, fun j hj => by obtain ⟨h1, h2⟩ := h.val j hj; obtain ⟨h3, h4⟩ := valI_extI (v := v) e h1; exact ⟨h3, by rw [h4, h2]⟩⟩
end Go.Ev
/- A window's values, from its front to its end: plain laws. -/
namespace Go.Ev
open Go Go.RowKit
set_option maxRecDepth 10000
set_option maxHeartbeats 1000000
set_option linter.unusedSimpArgs false
set_option linter.unusedVariables false
variable {L L' : List Nd} {v : List Nat}
def divN (w : List In4) (n : Nat) : Nat := (w.take n).countP fun x => decide (x.op = 60)
structure WV (v : List Nat) (L : List Nd) (p st : List Int) (w : List In4) (d : Da) (t : St) : Prop where
 num : st.length = divN w w.length
 ahead : ∀ i, i < divN w (runW d w t).2 → ∃ x n, st[i]? = some x ∧ hasI L x = true ∧ valI v L x = some n ∧ n ≠ 0
 stop : (runW d w t).2 < w.length → ∃ x, st[divN w (runW d w t).2]? = some x ∧ hasI L x = true ∧ valI v L x = some 0
 done : (runW d w t).2 = w.length → PV v L p (runW d w t).1
theorem WV.ext {p st : List Int} {w : List In4} {d : Da} {t : St} {k : Nat} (h : WV v L p st w d t) (e : Ext L L' k) : WV v L' p st w d t := by
 have tr : ∀ {x : Int} {o : Option Nat}, hasI L x = true → valI v L x = o → hasI L' x = true ∧ valI v L' x = o := fun a b => by
  obtain ⟨h3, h4⟩ := valI_extI (v := v) e a
  exact ⟨h3, by rw [h4, b]⟩
 refine ⟨h.num, fun i hi => ?_, fun hl => ?_, fun hl => (h.done hl).same e⟩
 ·obtain ⟨x, n, a, b, c, d⟩ := h.ahead i hi
  obtain ⟨h1, h2⟩ := tr b c
  exact ⟨x, n, a, h1, h2, d⟩
 ·obtain ⟨x, a, b, c⟩ := h.stop hl
  obtain ⟨h1, h2⟩ := tr b c
  exact ⟨x, a, h1, h2⟩
end Go.Ev
