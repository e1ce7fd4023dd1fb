/- decide.Decide. -/
import Derived.Test.YtkodfphojbfieaaGreatDoorRunFW
import Derived.KernelRfl
import Derived.Test.YtkodfphojbfieaaGreatDoorRunAW
set_option linter.unusedVariables false
set_option linter.unusedSimpArgs false
namespace Go.Ev
open Go Go.RowKit
variable {G : Tbl}
set_option maxRecDepth 10000
set_option maxHeartbeats 4000000
set_option linter.unusedSimpArgs false
set_option linter.unusedVariables false
noncomputable def decR (v w : List In4) (live : Nat) : Int × Option (List Nat) :=
 if (winB v && winB w) = true then
  if sameB (winV [] v).p (winV (winV [] v).L w).p (winV [] v).st (winV (winV [] v).L w).st live = true then (0, none)
  else match (triesL (winV (winV [] v).L w).L (winV [] v).p (winV (winV [] v).L w).p live).find? fun r => diffR v w live (stO r) (ofW (r.drop 18)) with
   | some r => (1, some r)
   | none => (2, none)
 else (0, none)
def newH5 (a b c d e : List V) : Heap := [some (.cells a), some (.cells b), some (.cells c), some (.cells d), some (.cells e), some (.map []), some (.cells [.vs [] (.own 7), .mp 5]), some (.zone 0)]
theorem newH5_bk {a b c d e : List V} (ha : ∀ n, clL n a = a) (hb : ∀ n, clL n b = b) (hc : ∀ n, clL n c = c) (hd : ∀ n, clL n d = d) (he : ∀ n, clL n e = e) : Bk (newH5 a b c d e) 6 7 5 [] := by
 refine ⟨rfl, rfl, rfl, fun n hn => ?_, fun a h => (by cases h), by decide⟩
 simp only [newH5, List.length_cons, List.length_nil] at hn
 simp [newH5, Blk.cl, ha, hb, hc, hd, he, clL, V.cl, Tk.cl, show 7 < n by omega, show 5 < n by omega]
theorem New5_ok [HasSymNew G] (a b c d e : List V) : Big G (.F 256 [] [some (.cells a), some (.cells b), some (.cells c), some (.cells d), some (.cells e)] (.ptr 6 0) [some (.cells a), some (.cells b), some (.cells c), some (.cells d), some (.cells e), some (.map []), some (.cells [.vs [] .full, .mp 5])]) := by
 refine F_of HasSymNew.h_sym_New (Nat.le_of_ble_eq_true rfl) ?_
 simp
section
variable {H : Heap} {b z m : Nat} {L : List Nd}
noncomputable def ofC (L : List Nd) (w : List In4) : List V := if winB w = true then vcs (winV L w).p (winV L w).st .no else vcs (List.replicate 18 0) [] .full
noncomputable def ofL (L : List Nd) (w : List In4) : List Nd := if winB w = true then (winV L w).L else L
theorem Of_any [HasWd G] [HasNeg G] [HasIns G] [HasCheck G] [HasWRight G] [HasAffine G] [HasBits G] [HasSym G] [HasWinOf G] (w : List In4) (h : Bk H b z m L) (hi : Inv L) (hs : L.length ≤ 800000) (hf : w.length ≤ maxLen) (hk : ∀ x ∈ w, x.k < 4294967296) :
  SF G 296 [.ptr b 0, FL w] H (.tup [.agg (ofC L w), .bool (winB w)]) (upd H b z m (ofL L w)) := by
 cases hw : winB w with
 | true =>
  have := Of_ok (G := G) w h hi hs hf hk hw
  simpa only [ofC, ofL, hw, if_true] using this
 | false =>
  have := Of_no (G := G) w h hf hk hw
  simpa only [ofC, ofL, hw, Bool.false_eq_true, if_false, h.upd_self] using this
theorem ofC_len (hi : Inv L) {w : List In4} (hk : ∀ x ∈ w, x.k < 4294967296) : (ofC L w).length = 19 := by
 unfold ofC
 split
 ·exact vcs_len (winV_ok hi w hk).len
 ·rfl
theorem ofC_cl (w : List In4) (n : Nat) : clL n (ofC L w) = ofC L w := by
 unfold ofC
 split <;> (rw [clL_eq_map, vcs]; simp [cints, Function.comp_def, V.cl, Tk.cl])
theorem ofL_inv (hi : Inv L) {w : List In4} (hk : ∀ x ∈ w, x.k < 4294967296) : Inv (ofL L w) := by
 unfold ofL
 split
 ·exact (winV_ok hi w hk).ext.inv
 ·exact hi
theorem ofL_len (hi : Inv L) {w : List In4} (hk : ∀ x ∈ w, x.k < 4294967296) : (ofL L w).length ≤ L.length + 114 := by
 unfold ofL
 split
 ·rename_i hw
  have hw32 : w.length ≤ 32 := by simp only [winB, Bool.and_eq_true, decide_eq_true_eq] at hw; exact hw.1
  have := (winV_ok hi w hk).ext.len
  omega
 ·omega
end
theorem ansC_len (c : Int) : (ansC c none).length = 28 := rfl
theorem ansC_cl (c : Int) (o : Option (List Nat)) (n : Nat) : clL n (ansC c o) = ansC c o := by cases o <;> simp [ansC, clL_eq_map, V.cl, St.cs, Da.cs, cnats, Function.comp_def]
theorem ansC_nf (c : Int) (o : Option (List Nat)) : (ansC c o).map V.nf1 = ansC c o := by cases o <;> simp [ansC, V.nf1, St.cs, Da.cs, cnats, Function.comp_def]
theorem ansC_take (c : Int) : (ansC c none).take 28 = ansC c none := List.take_of_length_le (by rw [ansC_len]; exact Nat.le_refl _)
theorem ansC_drop (c : Int) : (ansC c none).drop 28 = [] := List.drop_eq_nil_of_le (by rw [ansC_len]; exact Nat.le_refl _)
theorem Tries_F [HasDec G] (H : Heap) (b live : Nat) (X1 X2 : List V) (k1 : ∀ n, clL n X1 = X1) (k2 : ∀ n, clL n X2 = X2) (m1 : X1.map V.nf1 = X1) (m2 : X2.map V.nf1 = X2) :
  Big G (.F 311 [.ptr b 0, .agg X1, .agg X2, .int .u32 live] H (.fn 310 [.ptr (H.length + 3) 0, .ptr H.length 0, .ptr (H.length + 1) 0, .ptr (H.length + 2) 0])
   (H ++ [some (.cells [.ptr b 0]), some (.cells X1), some (.cells X2), some (.cells [.int .u32 live])])) := by
 refine F_of HasDec.h_decide_tries (Nat.le_of_ble_eq_true rfl) ?_
 simp [m1, m2, ap0, apk, set0, setk]
theorem Decide_ok [HasWd G] [HasNeg G] [HasIns G] [HasCheck G] [HasData G] [HasWith G] [HasStep G] [HasWRight G] [HasWinRun G] [HasWinAsg G] [HasWinState G] [HasWinOf G] [HasAffApart G] [HasAffine G] [hBA : HasBitsA G] [HasSymNew G] [HasSym G] [HasSymApart G] [HasDecDf G] [HasDec G]
  (v w : List In4) (live : Nat) (hf : v.length ≤ maxLen) (hg : w.length ≤ maxLen) (hk : ∀ x ∈ v, x.k < 4294967296) (hkw : ∀ x ∈ w, x.k < 4294967296) (hlv : live < 4294967296) :
  FP G 312 [FL v, FL w, .int .u32 live] (.tup [.agg (ansC (decR v w live).1 (decR v w live).2), .int .i64 (if (winB v && winB w) = true then 0 else 1)]) := by
 haveI : HasBits G := hBA.toHasBits
 refine FP_of HasDec.h_decide_Decide (Nat.le_of_ble_eq_true rfl) ?_
 obtain ⟨Z, hZ⟩ : ∃ Z : List V, Z = vcs (List.replicate 18 0) [] .full := ⟨_, rfl⟩
 have lZ : Z.length = 19 := by rw [hZ]; rfl
 have drop19 : Z.drop 19 = [] := List.drop_eq_nil_of_le (by omega)
 have hZz : [V.int .i64 0, .int .i64 0, .int .i64 0, .int .i64 0, .int .i64 0, .int .i64 0, .int .i64 0, .int .i64 0, .int .i64 0, .int .i64 0, .int .i64 0, .int .i64 0, .int .i64 0, .int .i64 0, .int .i64 0, .int .i64 0, .int .i64 0, .int .i64 0, .vs [] .full] = Z := by rw [hZ]; rfl
 obtain ⟨A0, hA0⟩ : ∃ A0 : List V, A0 = ansC 0 none := ⟨_, rfl⟩
 have hA0z : V.int .i64 0 :: (cnats .u32 (zeros 20) ++ cnats .u64 (zeros 7)) = A0 := by rw [hA0]; rfl
 have lA0 : A0.length = 28 := by rw [hA0]; rfl
 have kA0 : ∀ n, clL n A0 = A0 := fun n => by rw [hA0]; simp [ansC, clL_eq_map, V.cl, cnats, Function.comp_def]
 have hB := newH5_bk (a := [.vs (IL v) .no]) (b := [.vs (IL w) .no]) (c := [.int .u32 live]) (d := A0) (e := [.int .i64 0]) (fun n => by simp [clL, V.cl, Tk.cl]) (fun n => by simp [clL, V.cl, Tk.cl]) (fun n => by simp [clL, V.cl]) kA0 (fun n => by simp [clL, V.cl])
 obtain ⟨H0, hH0⟩ : ∃ H0, H0 = newH5 [.vs (IL v) .no] [.vs (IL w) .no] [.int .u32 live] A0 [.int .i64 0] := ⟨_, rfl⟩
 rw [← hH0] at hB
 have n0 : H0.length = 8 := by rw [hH0]; rfl
 have t0 : ∀ r, trunc 8 (H0 ++ r) = H0 := fun r => by have := hB.shut.back r; rwa [n0] at this
 have a8 : ∀ r : Heap, (H0 ++ r)[8]? = r[0]? := fun r => apn0 n0
 have a9 : ∀ r : Heap, (H0 ++ r)[9]? = r[1]? := fun r => apnk n0 1
 have b8 : ∀ (r : Heap) x, (H0 ++ r).set 8 x = H0 ++ r.set 0 x := fun r x => setn0 n0 x
 have b9 : ∀ (r : Heap) x, (H0 ++ r).set 9 x = H0 ++ r.set 1 x := fun r x => setnk n0 1 x
 have o0 : ∀ r : Heap, (H0 ++ r)[0]? = some (some (.cells [.vs (IL v) .no])) := fun r => by rw [hH0]; rfl
 have o1 : ∀ r : Heap, (H0 ++ r)[1]? = some (some (.cells [.vs (IL w) .no])) := fun r => by rw [hH0]; rfl
 have o3 : ∀ r : Heap, (H0 ++ r)[3]? = some (some (.cells A0)) := fun r => by rw [hH0]; rfl
 have o4 : ∀ r : Heap, (H0 ++ r)[4]? = some (some (.cells [.int .i64 0])) := fun r => by rw [hH0]; rfl
 have hBn : Bk (H0 ++ [none]) 6 7 5 [] := hB.app fun n => by simp
 simp [FL, hA0z]
 refine callK_of (New5_ok [.vs (IL v) .no] [.vs (IL w) .no] [.int .u32 live] A0 [.int .i64 0]) (by simp) ?_
 simp
 rw [show ([some (.cells [.vs (IL v) .no]), some (.cells [.vs (IL w) .no]), some (.cells [.int .u32 live]), some (.cells A0), some (.cells [.int .i64 0]), some (.map []), some (.cells [.vs [] (.own 7), .mp 5]), some (.zone 0), none] : Heap) = H0 ++ [none] from by rw [hH0]; rfl]
 obtain ⟨L1, hL1⟩ : ∃ L1, L1 = ofL [] v := ⟨_, rfl⟩
 obtain ⟨X1, hX1⟩ : ∃ X1, X1 = ofC [] v := ⟨_, rfl⟩
 have i1 : Inv L1 := by rw [hL1]; exact ofL_inv Inv.nil hk
 have z1 : L1.length ≤ 114 := by rw [hL1]; simpa using ofL_len Inv.nil hk
 have x1 : X1.length = 19 := by rw [hX1]; exact ofC_len Inv.nil hk
 have c1 : ∀ n, clL n X1 = X1 := fun n => by rw [hX1]; exact ofC_cl v n
 have hof := Of_any (G := G) v hBn Inv.nil (by decide) hf hk
 rw [← hL1, ← hX1, hB.upd_app] at hof
 obtain ⟨U, hU⟩ : ∃ U, U = upd H0 6 7 5 L1 := ⟨_, rfl⟩
 have hUB : Bk U 6 7 5 L1 := by rw [hU]; exact hB.to i1 (by omega)
 rw [← hU] at hof
 have nU : U.length = 8 := by rw [hU, upd_len, n0]
 have keepU : ∀ {p : Nat} {c : List V}, (H0 ++ [])[p]? = some (some (.cells c)) → p ≠ 6 → U[p]? = some (some (.cells c)) := fun {p c} hp hne => by
  rw [hU]; exact upd_other hB (by simpa using hp) hne
 obtain ⟨L2, hL2⟩ : ∃ L2, L2 = ofL L1 w := ⟨_, rfl⟩
 obtain ⟨X2, hX2⟩ : ∃ X2, X2 = ofC L1 w := ⟨_, rfl⟩
 have i2 : Inv L2 := by rw [hL2]; exact ofL_inv i1 hkw
 have z2 : L2.length ≤ 228 := by rw [hL2]; have := ofL_len i1 hkw; omega
 have x2 : X2.length = 19 := by rw [hX2]; exact ofC_len i1 hkw
 have c2 : ∀ n, clL n X2 = X2 := fun n => by rw [hX2]; exact ofC_cl w n
 have hUX : Bk (U ++ [some (.cells X1), none]) 6 7 5 L1 := hUB.app fun n => by simp [Blk.cl, c1]
 have hof2 := Of_any (G := G) w hUX i1 (by omega) hg hkw
 rw [← hL2, ← hX2, hUB.upd_app] at hof2
 obtain ⟨T, hT⟩ : ∃ T, T = upd U 6 7 5 L2 := ⟨_, rfl⟩
 have hTB : Bk T 6 7 5 L2 := by rw [hT]; exact hUB.to i2 (by omega)
 rw [← hT] at hof2
 have nT : T.length = 8 := by rw [hT, upd_len, nU]
 have keepT : ∀ {p : Nat} {c : List V}, (H0 ++ [])[p]? = some (some (.cells c)) → p ≠ 6 → T[p]? = some (some (.cells c)) := fun {p c} hp hne => by
  rw [hT]; exact upd_other hUB (keepU hp hne) hne
 have apl : ∀ {A : Heap} {p : Nat} {c : List V}, A[p]? = some (some (.cells c)) → ∀ r : Heap, (A ++ r)[p]? = some (some (.cells c)) := fun {A p c} hp r => by
  rw [List.getElem?_append_left (List.getElem?_eq_some_iff.1 hp).1]; exact hp
 have u1 := apl (keepU (o1 []) (by decide))
 have u1' : ∀ (r : Heap) h, (U ++ r)[1]'h = some (.cells [.vs (IL w) .no]) := fun r h => (List.getElem?_eq_some_iff.1 (u1 r)).2
 have q0 := apl (keepT (o0 []) (by decide))
 have q1 := apl (keepT (o1 []) (by decide))
 have q2 := apl (keepT (c := [.int .u32 live]) (p := 2) (by rw [hH0]; rfl) (by decide))
 have q3 := apl (keepT (o3 []) (by decide))
 have q4 := apl (keepT (o4 []) (by decide))
 have q0' : ∀ (r : Heap) h, (T ++ r)[0]'h = some (.cells [.vs (IL v) .no]) := fun r h => (List.getElem?_eq_some_iff.1 (q0 r)).2
 have q1' : ∀ (r : Heap) h, (T ++ r)[1]'h = some (.cells [.vs (IL w) .no]) := fun r h => (List.getElem?_eq_some_iff.1 (q1 r)).2
 have q2' : ∀ (r : Heap) h, (T ++ r)[2]'h = some (.cells [.int .u32 live]) := fun r h => (List.getElem?_eq_some_iff.1 (q2 r)).2
 have q3' : ∀ (r : Heap) h, (T ++ r)[3]'h = some (.cells A0) := fun r h => (List.getElem?_eq_some_iff.1 (q3 r)).2
 have q4' : ∀ (r : Heap) h, (T ++ r)[4]'h = some (.cells [.int .i64 0]) := fun r h => (List.getElem?_eq_some_iff.1 (q4 r)).2
 have ua8 : ∀ r : Heap, (U ++ r)[8]? = r[0]? := fun r => apn0 nU
 have ua9 : ∀ r : Heap, (U ++ r)[9]? = r[1]? := fun r => apnk nU 1
 have ub8 : ∀ (r : Heap) x, (U ++ r).set 8 x = U ++ r.set 0 x := fun r x => setn0 nU x
 have ub9 : ∀ (r : Heap) x, (U ++ r).set 9 x = U ++ r.set 1 x := fun r x => setnk nU 1 x
 have ta8 : ∀ r : Heap, (T ++ r)[8]? = r[0]? := fun r => apn0 nT
 have ta9 : ∀ r : Heap, (T ++ r)[9]? = r[1]? := fun r => apnk nT 1
 have tb8 : ∀ (r : Heap) x, (T ++ r).set 8 x = T ++ r.set 0 x := fun r x => setn0 nT x
 have tb9 : ∀ (r : Heap) x, (T ++ r).set 9 x = T ++ r.set 1 x := fun r x => setnk nT 1 x
 have d1 : X1.drop 19 = [] := List.drop_eq_nil_of_le (by omega)
 have d2 : X2.drop 19 = [] := List.drop_eq_nil_of_le (by omega)
 have e1 : X1.take 19 = X1 := List.take_of_length_le (by omega)
 have e2 : X2.take 19 = X2 := List.take_of_length_le (by omega)
 simp only [FL] at hof hof2
 refine callSF_of hof ?_
 simp [nU, ua8, ub8, hZz, lZ, drop19, x1, d1, e1, u1, u1']
 refine callSF_of hof2 ?_
 simp [nT, ta8, ta9, tb8, tb9, hZz, lZ, drop19, x1, d1, e1, x2, d2, e2, keep_cl]
 have hlt : ∀ p, p < 8 → p < T.length := fun p hp => by omega
 have ts3 : ∀ (r : Heap) x, (T ++ r).set 3 x = T.set 3 x ++ r := fun r x => List.set_append_left _ _ (by omega)
 have ts4 : ∀ (r : Heap) y x, (T.set 3 y ++ r).set 4 x = (T.set 3 y).set 4 x ++ r := fun r y x => List.set_append_left _ _ (by simp; omega)
 have tg3 : ∀ (r : Heap) y x, ((T.set 3 y).set 4 x ++ r)[3]? = some y := fun r y x => by
  rw [List.getElem?_append_left (by simp; omega), List.getElem?_set_ne (by decide), List.getElem?_set_self (by omega)]
 have tg4 : ∀ (r : Heap) y x, ((T.set 3 y).set 4 x ++ r)[4]? = some x := fun r y x => by
  rw [List.getElem?_append_left (by simp; omega), List.getElem?_set_self (by simp; omega)]
 have tg4' : ∀ (r : Heap) y, (T.set 3 y ++ r)[4]? = some (some (.cells [.int .i64 0])) := fun r y => by
  have := q4 []
  rw [List.getElem?_append_left (by simp; omega), List.getElem?_set_ne (by decide)]
  simpa using this
 have tg4'' : ∀ (r : Heap) y h, (T.set 3 y ++ r)[4]'h = some (.cells [.int .i64 0]) := fun r y h => (List.getElem?_eq_some_iff.1 (tg4' r y)).2
 have tg3n : ∀ (r : Heap) y x h, ((T.set 3 y).set 4 x ++ r)[3]'h = y := fun r y x h => (List.getElem?_eq_some_iff.1 (tg3 r y x)).2
 have tg4n : ∀ (r : Heap) y x h, ((T.set 3 y).set 4 x ++ r)[4]'h = x := fun r y x h => (List.getElem?_eq_some_iff.1 (tg4 r y x)).2
 have A28 : A0.take 28 = A0 := List.take_of_length_le (by omega)
 have D28 : A0.drop 28 = [] := List.drop_eq_nil_of_le (by omega)
 have nA0 : A0.map V.nf1 = A0 := by rw [hA0]; simp [ansC, cnats, Function.comp_def, V.nf1]
 cases hv : winB v with
 | false =>
  have hd : decR v w live = (0, none) := by simp [decR, hv]
  simp [hd, ← hA0, nT, q3, q3', lA0, ts3, ts4, A28, D28, tg3, tg4, tg4', tg4'', tg3n, tg4n, keep_cl, kA0, nA0]
 | true =>
 cases hw : winB w with
 | false =>
  have hd : decR v w live = (0, none) := by simp [decR, hv, hw]
  simp [hd, ← hA0, nT, q3, q3', lA0, ts3, ts4, A28, D28, tg3, tg4, tg4', tg4'', tg3n, tg4n, keep_cl, kA0, nA0]
 | true =>
 have hXv : X1 = vcs (winV [] v).p (winV [] v).st .no := by rw [hX1, ofC, if_pos hv]
 have hLv : L1 = (winV [] v).L := by rw [hL1, ofL, if_pos hv]
 have hXw : X2 = vcs (winV L1 w).p (winV L1 w).st .no := by rw [hX2, ofC, if_pos hw]
 have hLw : L2 = (winV L1 w).L := by rw [hL2, ofL, if_pos hw]
 have k1 := winV_ok Inv.nil v hk
 have k2 := winV_ok i1 w hkw
 have hD : decR v w live = decR v w live := rfl
 conv at hD => rhs; rw [decR, hv, hw, if_pos (show (true && true) = true from rfl), ← hLv, ← hLw]
 obtain ⟨P, hP⟩ : ∃ P, P = (winV [] v).p := ⟨_, rfl⟩
 obtain ⟨S, hS⟩ : ∃ S, S = (winV [] v).st := ⟨_, rfl⟩
 obtain ⟨Q, hQ⟩ : ∃ Q, Q = (winV L1 w).p := ⟨_, rfl⟩
 obtain ⟨R, hR⟩ : ∃ R, R = (winV L1 w).st := ⟨_, rfl⟩
 have pl : P.length = 18 := by rw [hP]; exact k1.len
 have ql : Q.length = 18 := by rw [hQ]; exact k2.len
 have sl : S.length ≤ 1000000 := by
  have hw32 : v.length ≤ 32 := by simp only [winB, Bool.and_eq_true, decide_eq_true_eq] at hv; exact hv.1
  have := k1.st
  rw [hS]; omega
 rw [← hP, ← hQ, ← hS, ← hR] at hD
 rw [← hP, ← hS] at hXv
 rw [← hQ, ← hR] at hXw
 have hsa := same_ok (G := G) P Q S R live hlv pl ql sl
 rw [← hXv, ← hXw] at hsa
 have m1 : X1.map V.nf1 = X1 := by rw [hXv]; simp [vcs, cints, Function.comp_def, V.nf1]
 have m2 : X2.map V.nf1 = X2 := by rw [hXw]; simp [vcs, cints, Function.comp_def, V.nf1]
 simp [nT, q2, q2', ta8, ta9, x1, x2, e1, e2, keep_cl, m1, m2, c1, c2]
 refine callP_of hsa ?_
 cases hsm : sameB P Q S R live with
 | true =>
  rw [hsm, if_pos rfl] at hD
  have At : V.int .i64 0 :: A0.tail = A0 := by rw [hA0]; rfl
  simp [hD, ← hA0, nT, q3, q3', lA0, ts3, ts4, A28, D28, tg3, tg4, tg4', tg4'', tg3n, tg4n, keep_cl, kA0, nA0, At]
 | false =>
  rw [hsm] at hD
  simp only [Bool.false_eq_true, if_false] at hD
  simp [nT, q2, q2', ta8, ta9, x1, x2, e1, e2, keep_cl, m1, m2, c1, c2]
  have n10 : (T ++ [some (Blk.cells X1), some (Blk.cells X2)]).length = 10 := by simp [nT]
  have htr := Tries_F (G := G) (T ++ [some (Blk.cells X1), some (Blk.cells X2)]) 6 live X1 X2 c1 c2 m1 m2
  rw [n10, List.append_assoc] at htr
  refine callK_of htr (by simp) ?_
  simp
  subst hA0
  obtain ⟨E, hE⟩ : ∃ E, E = T ++ [some (Blk.cells X1), some (Blk.cells X2), some (.cells [.ptr 6 0]), some (.cells X1), some (.cells X2), some (.cells [.int .u32 live])] := ⟨_, rfl⟩
  have nE : E.length = 14 := by rw [hE]; simp [nT]
  obtain ⟨HH, hHH⟩ : ∃ HH, HH = E ++ [some (Blk.loop tryE [46] tryAs tryBo .ready)] := ⟨_, rfl⟩
  have nHH : HH.length = 15 := by rw [hHH]; simp [nE]
  have hHT : HH = T ++ [some (Blk.cells X1), some (Blk.cells X2), some (.cells [.ptr 6 0]), some (.cells X1), some (.cells X2), some (.cells [.int .u32 live]), some (Blk.loop tryE [46] tryAs tryBo .ready)] := by rw [hHH, hE]; simp
  have hBE : Bk E 6 7 5 L2 := by
   rw [hE]
   refine hTB.app2 fun n hn => ?_
   simp [nT] at hn
   simp [Blk.cl, c1, c2, clL, V.cl, show 6 < n by omega]
  have hBH : Bk HH 6 7 5 L2 := by
   rw [hHH]
   refine hBE.app2 fun n hn => ?_
   simp [nE] at hn
   simp [Blk.cl, tryE, V.cl, show 0 < n by omega, show 1 < n by omega, show 2 < n by omega, show 3 < n by omega, show 4 < n by omega]
  have h14 : HH[14]? = some (some (.loop tryE [46] tryAs tryBo .ready)) := by rw [hHH]; exact apn0 nE
  have hTH : TryH HH v w live := ⟨by rw [hHT]; exact q0 _, by rw [hHT]; exact q1 _, by rw [hHT]; exact q2 _, by rw [hHT]; exact q3 _, by rw [hHT]; exact q4 _, h14, hBH.shut⟩
  have h10 : HH[10]? = some (some (.cells [.ptr 6 0])) := by rw [hHT]; exact apnk nT 2
  have h11 : HH[11]? = some (some (.cells (vcs P S .no))) := by rw [hHT, ← hXv]; exact apnk nT 3
  have h12 : HH[12]? = some (some (.cells (vcs Q R .no))) := by rw [hHT, ← hXw]; exact apnk nT 4
  have h13 : HH[13]? = some (some (.cells [.int .u32 live])) := by rw [hHT]; exact apnk nT 5
  have htt := tries1_ok (G := G) hBH i2 (id := 14) (i1 := 13) (i2 := 10) (i3 := 11) (i4 := 12) (live := live) hlv h13 h10 h11 h12 pl ql (by omega) (hit := fun r => diffR v w live (stO r) (ofW (r.drop 18))) (H' := hitH HH)
   (fun r hr hh X hX => by
    obtain ⟨hr1, hr2⟩ := triesL_ok hr
    have := try_ok (G := G) (hTH.app hX) hf hg hk hkw hlv hv hw hr1 hr2 hh
    simpa using this)
   (fun r hr hh X hX => by
    obtain ⟨hr1, hr2⟩ := triesL_ok hr
    have := try_ok (G := G) (hTH.app hX) hf hg hk hkw hlv hv hw hr1 hr2 hh
    rw [hitH_app (by omega)] at this
    simpa using this)
   (fun r hr hh => ⟨by
    have := (hitH_shut hBH.shut (by omega) r).self
    rwa [show (hitH HH r).length = HH.length by simp [hitH]] at this, by simp [hitH]⟩)
  rw [← hE]
  have hbE := hBE.shut.self
  rw [nE] at hbE
  have hlk : look (mkE [(3, V.ptr 0 0), (4, V.ptr 1 0), (5, V.ptr 2 0), (6, V.ptr 3 0), (7, V.ptr 4 0), (45, V.fn 310 [V.ptr 13 0, V.ptr 10 0, V.ptr 11 0, V.ptr 12 0])]) [3, 4, 5, 6, 7] = tryE := by simp [tryE]
  cases hfd : (triesL L2 P Q live).find? (fun r => diffR v w live (stO r) (ofW (r.drop 18))) with
  | none =>
   rw [hfd] at htt hD
   have htE : trunc 14 HH = E := by rw [hHH]; have := hBE.shut.back [some (Blk.loop tryE [46] tryAs tryBo .ready)]; rwa [nE] at this
   refine rangeSF_of (as := tryAs) (bo := tryBo) (x := .nx) (H2 := HH) (r := .tup []) ?_ (by rw [nE]; exact h14) (.inl ⟨rfl, rfl⟩) ?_
   ·rw [nE]
    rw [hHH] at htt
    rw [hHH, hlk]
    exact htt
   rw [nE, htE, hE]
   simp only [] at hD
   have At : ∀ c, V.int .i64 c :: (ansC 0 none).tail = ansC c none := fun c => rfl
   simp [hD, nT, q3, q3', lA0, ts3, ts4, A28, D28, tg3, tg4, tg4', tg4'', tg3n, tg4n, keep_cl, kA0, nA0, At, ansC_len, ansC_cl, ansC_nf, ansC_take, ansC_drop]
  | some r =>
   rw [hfd] at htt hD
   obtain ⟨hr1, hr2⟩ := triesL_ok (List.mem_of_find?_eq_some hfd)
   have lA : (ansC 1 (some r)).length = 28 := by
    have h1 := cs_len (stO_ok hr1 hr2)
    have h2 := dcs_len (ofW_ok (w := r.drop 18) (by simp [hr1]) (fun x hx => hr2 x (List.mem_of_mem_drop hx)))
    simp only [ansC, List.length_cons, List.length_append, h1, h2]
   obtain ⟨A1, hA1⟩ : ∃ A1, A1 = ansC 1 (some r) := ⟨_, rfl⟩
   have kA1 : ∀ n, clL n A1 = A1 := fun n => by rw [hA1]; exact ansC_cl _ _ n
   have nA1 : A1.map V.nf1 = A1 := by rw [hA1]; exact ansC_nf _ _
   rw [← hA1] at lA
   have tA1 : A1.take 28 = A1 := List.take_of_length_le (by omega)
   have hEE : hitH HH r = ((T.set 3 (some (.cells A1))).set 4 (some (.cells [.int .i64 0]))) ++ [some (Blk.cells X1), some (Blk.cells X2), some (.cells [.ptr 6 0]), some (.cells X1), some (.cells X2), some (.cells [.int .u32 live]), some (.loop tryE [46] tryAs tryBo (.done .ret))] := by
    rw [hHT, hitH, ← hA1, ts3, ts4]
    rw [List.set_append_right _ _ (by simp; omega)]
    simp [nT]
   have hsh := hitH_shut hBH.shut (by omega) r
   have hl14 : (hitH HH r)[14]? = some (some (.loop tryE [46] tryAs tryBo (.done .ret))) := by
    unfold hitH
    exact List.getElem?_set_self (by simp; omega)
   have hsh14 : trunc 14 (hitH HH r) = ((T.set 3 (some (.cells A1))).set 4 (some (.cells [.int .i64 0]))) ++ [some (Blk.cells X1), some (Blk.cells X2), some (.cells [.ptr 6 0]), some (.cells X1), some (.cells X2), some (.cells [.int .u32 live])] := by
    have hmE : E.map (Option.map (Blk.cl 14)) = E := by
     have := hbE
     unfold trunc at this
     rwa [List.take_of_length_le (by omega)] at this
    have hE1 : trunc 14 ((E.set 3 (some (.cells A1))).set 4 (some (.cells [.int .i64 0]))) = (E.set 3 (some (.cells A1))).set 4 (some (.cells [.int .i64 0])) := by
     unfold trunc
     rw [List.take_of_length_le (by simp; omega), List.map_set, List.map_set, hmE]
     simp [Blk.cl, kA1, clL, V.cl]
    have hEs : (E.set 3 (some (.cells A1))).set 4 (some (.cells [.int .i64 0])) = ((T.set 3 (some (.cells A1))).set 4 (some (.cells [.int .i64 0]))) ++ [some (Blk.cells X1), some (Blk.cells X2), some (.cells [.ptr 6 0]), some (.cells X1), some (.cells X2), some (.cells [.int .u32 live])] := by rw [hE, ts3, ts4]
    have hcut : hitH HH r = ((E.set 3 (some (.cells A1))).set 4 (some (.cells [.int .i64 0]))) ++ [some (.loop tryE [46] tryAs tryBo (.done .ret))] := by rw [hEs, hEE]; simp
    rw [hcut, trunc_app hE1 (by simp; exact nE), hEs]
   refine rangeSF_of (as := tryAs) (bo := tryBo) (x := .ret) (H2 := hitH HH r) (r := .tup []) ?_ (by rw [nE]; exact hl14) (.inr ⟨rfl, by decide⟩) ?_
   ·rw [nE]
    rw [hlk, ← hHH]
    exact htt
   rw [nE, hsh14]
   simp only [] at hD
   simp [hD, nT, lA, tA1, kA1, nA1, tg3, tg4, tg3n, tg4n, ← hA1]
end Go.Ev
/- The examples of layer 18. -/
namespace Go.Ev
open Go Go.RowKit
variable {G : Tbl}
set_option maxRecDepth 10000
set_option maxHeartbeats 4000000
set_option linter.unusedSimpArgs false
set_option linter.unusedVariables false
def ex1 : List In4 := [⟨4, 0, 0, 1⟩, ⟨4, 0, 0, 2⟩]
def ex2 : List In4 := [⟨4, 0, 0, 3⟩]
theorem ex12 : sameB (winV [] ex1).p (winV (winV [] ex1).L ex2).p (winV [] ex1).st (winV (winV [] ex1).L ex2).st 1 = true := by kernel_rfl
theorem same_diff {v w : List In4} {live : Nat} {s : St} {d : Da} (hk : ∀ x ∈ v, x.k < 4294967296) (hkw : ∀ x ∈ w, x.k < 4294967296) (hs : s.ok) (hd : d.ok) (hv : winB v = true) (hw : winB w = true)
  (h : sameB (winV [] v).p (winV (winV [] v).L w).p (winV [] v).st (winV (winV [] v).L w).st live = true) : diffR v w live s d = false := by
 have k1 := winV_ok Inv.nil v hk
 have k2 := winV_ok k1.ext.inv w hkw
 have V1 := (win_vals Inv.nil hs hd hk hv).ext k2.ext
 have V2 := win_vals k1.ext.inv hs hd hkw hw
 obtain ⟨hp, hst⟩ := sameB_yes.1 h
 have hn1 := runW_le d v s
 have hn2 := runW_le d w s
 rw [← hst] at V2
 have one : ∀ {p q : List Int} {st : List Int} {a b : List In4} {L : List Nd}, WV (asgL s d) L p st a d s → WV (asgL s d) L q st b d s → (runW d a s).2 < a.length → (runW d b s).2 ≤ b.length → (runW d b s).2 < b.length := fun {p q st a b L} A B hlt hle => by
  rcases Nat.lt_or_ge (runW d b s).2 b.length with h | h
  ·exact h
  ·exfalso
   have he : (runW d b s).2 = b.length := Nat.le_antisymm hle h
   obtain ⟨x, hx, _, hx0⟩ := A.stop hlt
   have hlt2 := (List.getElem?_eq_some_iff.1 hx).1
   rw [B.num, ← he] at hlt2
   obtain ⟨y, n, hy, _, hyn, hn0⟩ := B.ahead _ hlt2
   rw [hx] at hy
   cases hy
   rw [hx0] at hyn
   cases hyn
   exact hn0 rfl
 unfold diffR
 by_cases e1 : (runW d v s).2 < v.length
 ·have e2 := one V1 V2 e1 hn2
  simp [e1, e2]
 ·have e2 : ¬ (runW d w s).2 < w.length := fun h => e1 (one V2 V1 h hn1)
  rw [if_neg (by simp [e1, e2])]
  have d1 := V1.done (by omega)
  have d2 := V2.done (by omega)
  refine partsD_no fun j hj => ?_
  unfold diffAt
  cases hb : partB live j with
  | false => rfl
  | true =>
   have hpq := hp j hj
   simp only [numDiff, hb, Bool.true_and, bne_eq_false_iff_eq] at hpq
   have o1 := runW_ok hd v s hs hk
   have o2 := runW_ok hd w s hs hkw
   rw [Bool.true_and, bne_eq_false_iff_eq, asg_pt o1 hj, asg_pt o2 hj]
   have h1 := (d1.val j hj).2
   have h2 := (d2.val j hj).2
   rw [hpq, h2] at h1
   exact (Option.some.inj h1).symm
theorem dec_tells {v w : List In4} {live : Nat} (hv : winB v = true) (hw : winB w = true) :
  decR v w live = (0, none) ∧ sameB (winV [] v).p (winV (winV [] v).L w).p (winV [] v).st (winV (winV [] v).L w).st live = true ∨
  (∃ r, decR v w live = (1, some r) ∧ r ∈ triesL (winV (winV [] v).L w).L (winV [] v).p (winV (winV [] v).L w).p live ∧ diffR v w live (stO r) (ofW (r.drop 18)) = true ∧ sameB (winV [] v).p (winV (winV [] v).L w).p (winV [] v).st (winV (winV [] v).L w).st live = false) ∨
  decR v w live = (2, none) ∧ (∀ r ∈ triesL (winV (winV [] v).L w).L (winV [] v).p (winV (winV [] v).L w).p live, diffR v w live (stO r) (ofW (r.drop 18)) = false) ∧ sameB (winV [] v).p (winV (winV [] v).L w).p (winV [] v).st (winV (winV [] v).L w).st live = false := by
 have hD : decR v w live = decR v w live := rfl
 conv at hD => rhs; rw [decR, hv, hw, if_pos (show (true && true) = true from rfl)]
 cases hs : sameB (winV [] v).p (winV (winV [] v).L w).p (winV [] v).st (winV (winV [] v).L w).st live with
 | true =>
  rw [hs, if_pos rfl] at hD
  exact .inl ⟨hD, rfl⟩
 | false =>
  rw [hs] at hD
  simp only [Bool.false_eq_true, if_false] at hD
  cases hfd : (triesL (winV (winV [] v).L w).L (winV [] v).p (winV (winV [] v).L w).p live).find? (fun r => diffR v w live (stO r) (ofW (r.drop 18))) with
  | none =>
   rw [hfd] at hD
   refine .inr (.inr ⟨hD, fun r hr => ?_, rfl⟩)
   have := List.find?_eq_none.1 hfd r hr
   simpa using this
  | some r =>
   rw [hfd] at hD
   have hh := List.find?_some hfd
   exact .inr (.inl ⟨r, hD, List.mem_of_find?_eq_some hfd, hh, rfl⟩)
end Go.Ev
/- knows of layer 18. -/
namespace Go.Ev
open Go Go.RowKit
variable {G : Tbl}
set_option maxRecDepth 10000
set_option maxHeartbeats 4000000
set_option linter.unusedSimpArgs false
set_option linter.unusedVariables false
theorem ansC_cells {r : List Nat} (hr : r.length = 34) (hr' : ∀ x ∈ r, x < 4294967296) (c : Int) : (ansC c (some r)).length = 28 ∧ (ansC c (some r)).tail.take 18 = (stO r).cs ∧ (ansC c (some r)).drop 19 = (ofW (r.drop 18)).cs := by
 have h1 := cs_len (stO_ok hr hr')
 have h2 := dcs_len (ofW_ok (w := r.drop 18) (by simp [hr]) (fun x hx => hr' x (List.mem_of_mem_drop hx)))
 refine ⟨by simp only [ansC, List.length_cons, List.length_append, h1, h2], ?_, ?_⟩
 ·simp only [ansC, List.tail_cons]
  rw [List.take_left' h1]
 ·simp only [ansC]
  rw [List.drop_succ_cons, List.drop_left' h1]
end Go.Ev
/- The laws DecideEqual, DecideDiffer. -/
namespace Go.Ev
open Go Go.RowKit
variable {G : Tbl}
set_option maxRecDepth 10000
set_option maxHeartbeats 4000000
set_option linter.unusedSimpArgs false
set_option linter.unusedVariables false
theorem ansC_hd (c : Int) (o : Option (List Nat)) : (ansC c o).take 1 = [.int .i64 c] := by cases o <;> rfl
theorem decR_len (v w : List In4) (live : Nat) : (ansC (decR v w live).1 (decR v w live).2).length = 28 := by
 cases hww : winB v && winB w with
 | false =>
  have hd0 : decR v w live = (0, none) := by simp [decR, hww]
  rw [hd0]; rfl
 | true =>
  simp only [Bool.and_eq_true] at hww
  rcases dec_tells (live := live) hww.1 hww.2 with ⟨e, _⟩ | ⟨r, e, hr, _, _⟩ | ⟨e, _, _⟩
  ·rw [e]; rfl
  ·obtain ⟨h1, h2⟩ := triesL_ok hr
   rw [e]; exact (ansC_cells h1 h2 1).1
  ·rw [e]; rfl
end Go.Ev
/- The numbers of which letters are made. -/
namespace Go.Ev
open Go Go.RowKit
variable {G : Tbl}
set_option maxRecDepth 10000
set_option maxHeartbeats 4000000
set_option linter.unusedSimpArgs false
set_option linter.unusedVariables false
def ownB (x : In4) : Bool := ((aluT x.op).2.2 && !(aluT x.op).2.1) || decide (x.op = 0) || decide (x.op = 1)
def ownN (w : List In4) : List Nat := (w.filter ownB).map In4.k
theorem ownN_snoc (w : List In4) (x : In4) : ownN (w ++ [x]) = if ownB x then ownN w ++ [x.k] else ownN w := by
 unfold ownN
 rw [List.filter_append, List.map_append]
 by_cases h : ownB x = true <;> simp [h, List.filter_cons]
theorem ownN_len (w : List In4) : (ownN w).length ≤ w.length := by simp [ownN, List.length_filter_le]
noncomputable def toldN (w : List In4) : List Nat :=
 (constI (winV [] w).L ((winV [] w).p.getD 0 0)).toList ++ ((valI (zeros 34) (winV [] w).L ((winV [] w).p.getD 0 0)).toList ++ (valI (4294967295 :: zeros 33) (winV [] w).L ((winV [] w).p.getD 0 0)).toList)
theorem New_any [HasSymNew G] (H : Heap) : Big G (.F 256 [] H (.ptr (H.length + 1) 0) (H ++ [some (.map []), some (.cells [.vs [] .full, .mp H.length])])) := by
 refine F_of HasSymNew.h_sym_New (Nat.le_of_ble_eq_true rfl) ?_
 simp [ap0, apk, set0, setk]
theorem own_B [HasR2 G] [HasR19 G] (w : List In4) (hf : w.length ≤ 1000000) : Big G (.F 332 [FL w] [none] (.vs (nats .u32 (ownN w)) (.own 1)) [none, some (.zone (ownN w).length)]) := by
 refine F_of HasR19.h_hurdleref19_own (Nat.le_of_ble_eq_true rfl) ?_
 obtain ⟨T, hT⟩ : ∃ T : Nat → List Nat, ∀ j, T j = ownN (w.take j) := ⟨_, fun _ => rfl⟩
 have T0 : T 0 = [] := by rw [hT]; rfl
 have TN : T w.length = ownN w := by rw [hT, List.take_length]
 have Tl : ∀ i, (T i).length ≤ i := fun i => by rw [hT]; exact Nat.le_trans (ownN_len _) (by rw [List.length_take]; omega)
 simp
 refine W_up w.length (fun i => [(0, FL w), (3, .vs (nats .u32 (T i)) (.own 1)), (4, .int .i64 i)]) (fun i => [none, some (.zone (T i).length)]) (fun _ => True) ?_ ?_
 ·simp [keep_cl, trunc, FL, T0]
 intro i hi _
 by_cases hlt : i < w.length
 ·obtain ⟨x, hx⟩ : ∃ x, x = w[i] := ⟨_, rfl⟩
  have hg : w[i]? = some x := by rw [List.getElem?_eq_getElem hlt, hx]
  have hgg := FL_get hlt
  rw [← hx] at hgg
  have hal := AluR_ok (G := G) x
  have hcs : x.cs = [.int .i64 x.op, .int .i64 x.jt, .int .i64 x.jf, .int .u32 (x.k : Int)] := rfl
  have hl := Tl i
  have hs : T (i + 1) = if ownB x then T i ++ [x.k] else T i := by rw [hT, hT, List.take_add_one, hg]; exact ownN_snoc _ _
  simp only [IV, hcs] at hal
  have hsn : nats .u32 (T i) ++ [[V.int .u32 (x.k : Int)]] = nats .u32 (T i ++ [x.k]) := nats_snoc .u32 (T i) x.k
  simp (disch := omega) [ltT, FL, hgg, hcs, hlt]
  refine callP_of hal ?_
  cases ha : (aluT x.op).2.2 with
  | true =>
   cases hb : (aluT x.op).2.1 with
   | false =>
    have hy : ownB x = true := by simp [ownB, ha, hb]
    rw [if_pos hy] at hs
    have hsl : (T (i + 1)).length = (T i).length + 1 := by rw [hs]; simp
    rw [← hs] at hsn
    simp (disch := omega) [ltT, leTn, FL, hgg, hcs, hlt, hsn, hsl, add1', keep_cl, trunc, -Int.natCast_add]
   | true =>
    by_cases o0 : x.op = 0
    ·have hy : ownB x = true := by simp [ownB, o0]
     rw [if_pos hy] at hs
     have hsl : (T (i + 1)).length = (T i).length + 1 := by rw [hs]; simp
     rw [← hs] at hsn
     simp (disch := omega) [ltT, leTn, FL, hgg, hcs, hlt, o0, hsn, hsl, add1', keep_cl, trunc, -Int.natCast_add]
    by_cases o1 : x.op = 1
    ·have hy : ownB x = true := by simp [ownB, o1]
     rw [if_pos hy] at hs
     have hsl : (T (i + 1)).length = (T i).length + 1 := by rw [hs]; simp
     rw [← hs] at hsn
     simp (disch := omega) [ltT, leTn, FL, hgg, hcs, hlt, o1, hsn, hsl, add1', keep_cl, trunc, -Int.natCast_add]
    have hy : ownB x = false := by simp [ownB, hb, o0, o1]
    rw [hy] at hs
    simp only [Bool.false_eq_true, if_false] at hs
    simp (disch := omega) [ltT, leTn, FL, hgg, hcs, hlt, o0, o1, beqF o0, beqF o1, hs, add1', keep_cl, trunc, -Int.natCast_add]
  | false =>
    by_cases o0 : x.op = 0
    ·have hy : ownB x = true := by simp [ownB, o0]
     rw [if_pos hy] at hs
     have hsl : (T (i + 1)).length = (T i).length + 1 := by rw [hs]; simp
     rw [← hs] at hsn
     simp (disch := omega) [ltT, leTn, FL, hgg, hcs, hlt, o0, hsn, hsl, add1', keep_cl, trunc, -Int.natCast_add]
    by_cases o1 : x.op = 1
    ·have hy : ownB x = true := by simp [ownB, o1]
     rw [if_pos hy] at hs
     have hsl : (T (i + 1)).length = (T i).length + 1 := by rw [hs]; simp
     rw [← hs] at hsn
     simp (disch := omega) [ltT, leTn, FL, hgg, hcs, hlt, o1, hsn, hsl, add1', keep_cl, trunc, -Int.natCast_add]
    have hy : ownB x = false := by simp [ownB, ha, o0, o1]
    rw [hy] at hs
    simp only [Bool.false_eq_true, if_false] at hs
    simp (disch := omega) [ltT, leTn, FL, hgg, hcs, hlt, o0, o1, beqF o0, beqF o1, hs, add1', keep_cl, trunc, -Int.natCast_add]
 ·have hne : i = w.length := by omega
  subst hne
  simp [TN, FL]
def BH (a : Option Blk) (L : List Nd) : Heap := [a, some (.map (ents L)), some (bookC L 3 1), some (.zone L.length)]
theorem BH_bk {a : Option Blk} {L : List Nd} (ha : ∀ n, a.map (Blk.cl n) = a) (hok : ∀ x ∈ L, x.ok) (hs : L.length ≤ 1000000) : Bk (BH a L) 2 3 1 L := by
 refine ⟨rfl, rfl, rfl, fun n hn => ?_, hok, hs⟩
 simp only [BH, List.length_cons, List.length_nil] at hn
 simp [BH, bookC, Blk.cl, ha, clL, V.cl, Tk.cl, ents, ents_cl, show 3 < n by omega, show 1 < n by omega]
def BT (L : List Nd) : Heap := [some (.map (ents L)), some (bookC L 2 0), some (.zone L.length)]
theorem BT_bk {L : List Nd} (hok : ∀ x ∈ L, x.ok) (hs : L.length ≤ 1000000) : Bk (BT L) 1 2 0 L := by
 refine ⟨rfl, rfl, rfl, fun n hn => ?_, hok, hs⟩
 simp only [BT, List.length_cons, List.length_nil] at hn
 simp [BT, bookC, Blk.cl, clL, V.cl, Tk.cl, ents, ents_cl, show 2 < n by omega, show 0 < n by omega]
theorem told_ok [HasWd G] [HasNeg G] [HasIns G] [HasCheck G] [HasWRight G] [HasAffine G] [hB : HasBitsE G] [HasSymNew G] [HasSym G] [HasSymEval G] [HasWinOf G] [HasL19t G] (w : List In4) (hf : w.length ≤ maxLen) (hk : ∀ x ∈ w, x.k < 4294967296) (hw : winB w = true) :
  FP G 336 [FL w] (.vs (nats .u32 (toldN w)) .no) := by
 haveI : HasBits G := hB.toHasBits
 refine FP_of HasL19t.h_hurdlelaw19_told (Nat.le_of_ble_eq_true rfl) ?_
 obtain ⟨L, hL⟩ : ∃ L, L = (winV [] w).L := ⟨_, rfl⟩
 have hv := winV_ok Inv.nil w hk
 have hi : Inv L := by rw [hL]; exact hv.ext.inv
 have hw32 : w.length ≤ 32 := by simp only [winB, Bool.and_eq_true, decide_eq_true_eq] at hw; exact hw.1
 have hLl : L.length ≤ 114 := by rw [hL]; have := hv.ext.len; simp at this; omega
 obtain ⟨X, hX⟩ : ∃ X, X = ofC [] w := ⟨_, rfl⟩
 have lX : X.length = 19 := by rw [hX]; exact ofC_len Inv.nil hk
 have cX : ∀ n, clL n X = X := fun n => by rw [hX]; exact ofC_cl w n
 have nX : X.map V.nf1 = X := by rw [hX, ofC, if_pos hw, vcs]; simp [cints, Function.comp_def, V.nf1]
 obtain ⟨p0, hp0⟩ : ∃ p0, p0 = (winV [] w).p.getD 0 0 := ⟨_, rfl⟩
 have X1 : X.take 1 = [.int .i64 p0] := by
  rw [hX, ofC, if_pos hw, vcs_get0 hv.len, hp0, List.getD, List.getElem?_eq_getElem (show 0 < (winV [] w).p.length by rw [hv.len]; decide)]; rfl
 have hB0 : Bk (BT []) 1 2 0 [] := BT_bk (by simp) (by simp)
 have hB1 : Bk (BT L) 1 2 0 L := BT_bk hi.ok (by omega)
 have hB1x : Bk (BT L ++ [some (.cells X)]) 1 2 0 L := hB1.app fun n => by simp [Blk.cl, cX]
 have hof := Of_any (G := G) w (hB0.app (r := [none]) fun n => by simp) Inv.nil (by decide) hf hk
 rw [hB0.upd_app, ← hX] at hof
 have e1 : upd (BT []) 1 2 0 (ofL [] w) = BT L := by rw [hL, ofL, if_pos hw]; rfl
 rw [e1, hw] at hof
 simp only [FL] at hof
 have hc := BConstant_ok (G := G) p0 hB1x
 have hz34 : cnats .u32 (zeros 34) = cnats .u32 (zeros 34) := rfl
 have he0 := fun (r : Heap) (hr : ∀ n, r.map (Option.map (Blk.cl n)) = r) => Eval_F (G := G) p0 (zeros 34) (hB1.app hr) hi (by simp) (zeros_lt 34)
 have he1 := fun (r : Heap) (hr : ∀ n, r.map (Option.map (Blk.cl n)) = r) => Eval_F (G := G) p0 (4294967295 :: zeros 33) (hB1.app hr) hi (by simp) (fun c hc => by rcases List.mem_cons.1 hc with rfl | h; decide; exact zeros_lt 33 c h)
 have hT : toldN w = (constI L p0).toList ++ ((valI (zeros 34) L p0).toList ++ (valI (4294967295 :: zeros 33) L p0).toList) := by rw [hL, hp0]; rfl
 rw [hT]
 generalize constI L p0 = o1 at hc ⊢
 generalize valI (zeros 34) L p0 = o2 at he0 ⊢
 generalize valI (4294967295 :: zeros 33) L p0 = o3 at he1 ⊢
 simp [FL]
 refine callK_of (New_any []) (by simp) ?_
 simp
 rw [show ([some (.map []), some (.cells [.vs [] (.own 2), .mp 0]), some (.zone 0), none] : Heap) = BT [] ++ [none] from rfl]
 refine callSF_of hof ?_
 have nB : (BT L).length = 3 := rfl
 have kk : ∀ r : Heap, (BT L ++ r)[3]? = r[0]? := fun r => apn0 nB
 have k0 : ∀ (r : Heap) x, (BT L ++ r).set 3 x = BT L ++ r.set 0 x := fun r x => setn0 nB x
 obtain ⟨Z, hZ⟩ : ∃ Z : List V, Z = vcs (List.replicate 18 0) [] .full := ⟨_, rfl⟩
 have lZ : Z.length = 19 := by rw [hZ]; rfl
 have hZz : [V.int .i64 0, .int .i64 0, .int .i64 0, .int .i64 0, .int .i64 0, .int .i64 0, .int .i64 0, .int .i64 0, .int .i64 0, .int .i64 0, .int .i64 0, .int .i64 0, .int .i64 0, .int .i64 0, .int .i64 0, .int .i64 0, .int .i64 0, .int .i64 0, .vs [] .full] = Z := by rw [hZ]; rfl
 have tX : X.take 19 = X := List.take_of_length_le (by omega)
 have dZ : Z.drop 19 = [] := List.drop_eq_nil_of_le (by omega)
 simp [hZz, lZ, kk, k0, lX, tX, dZ, nX, cX]
 simp [hZz, lZ, kk, k0, lX, tX, dZ, nX, cX, X1]
 refine callSF_of hc ?_
 have kk1 : ∀ r : Heap, (BT L ++ r)[4]? = r[1]? := fun r => apnk nB 1
 have k01 : ∀ (r : Heap) x, (BT L ++ r).set 4 x = BT L ++ r.set 1 x := fun r x => setnk nB 1 x
 have cc : ∀ (r : Heap) (h : 4 < (BT L ++ r).length) (y : Option Blk), r[1]? = some y → (BT L ++ r)[4]'h = y := fun r h y hy => (List.getElem?_eq_some_iff.1 ((kk1 r).trans hy)).2
 cases o1 <;> cases o2 <;> cases o3
 all_goals
  simp [nB, kk, k0, kk1, k01, lX, X1]
  refine callSF_of (he0 _ fun n => by simp [Blk.cl, cX]) ?_
  simp [nB, kk, k0, kk1, k01, lX, X1, leTn]
  refine callSF_of (he1 _ fun n => by simp [Blk.cl, cX]) ?_
  simp [nB, kk, k0, kk1, k01, lX, X1, leTn]
  try rfl
theorem numbers_ok [HasWd G] [HasNeg G] [HasIns G] [HasCheck G] [HasWRight G] [HasAffine G] [hB : HasBitsE G] [HasSymNew G] [HasSym G] [HasSymEval G] [HasWinOf G] [HasSrcN G] (w : List In4) (hf : w.length ≤ maxLen) (hk : ∀ x ∈ w, x.k < 4294967296) (hw : winB w = true) :
  FP G 326 [FL w] (.vs (nats .u32 (ownN w ++ toldN w)) .no) := by
 haveI : HasBits G := hB.toHasBits
 refine FP_of HasSrcN.h_search_numbers (Nat.le_of_ble_eq_true rfl) ?_
 obtain ⟨L, hL⟩ : ∃ L, L = (winV [] w).L := ⟨_, rfl⟩
 have hv := winV_ok Inv.nil w hk
 have hi : Inv L := by rw [hL]; exact hv.ext.inv
 have hw32 : w.length ≤ 32 := by simp only [winB, Bool.and_eq_true, decide_eq_true_eq] at hw; exact hw.1
 have hLl : L.length ≤ 114 := by rw [hL]; have := hv.ext.len; simp at this; omega
 obtain ⟨X, hX⟩ : ∃ X, X = ofC [] w := ⟨_, rfl⟩
 have lX : X.length = 19 := by rw [hX]; exact ofC_len Inv.nil hk
 have cX : ∀ n, clL n X = X := fun n => by rw [hX]; exact ofC_cl w n
 have nX : X.map V.nf1 = X := by rw [hX, ofC, if_pos hw, vcs]; simp [cints, Function.comp_def, V.nf1]
 obtain ⟨p0, hp0⟩ : ∃ p0, p0 = (winV [] w).p.getD 0 0 := ⟨_, rfl⟩
 have X1 : X.take 1 = [.int .i64 p0] := by
  rw [hX, ofC, if_pos hw, vcs_get0 hv.len, hp0, List.getD, List.getElem?_eq_getElem (show 0 < (winV [] w).p.length by rw [hv.len]; decide)]; rfl
 have hB0 : ∀ k, Bk (BH (some (.zone k)) []) 2 3 1 [] := fun k => BH_bk (fun n => rfl) (by simp) (by simp)
 have hB1 : ∀ k, Bk (BH (some (.zone k)) L) 2 3 1 L := fun k => BH_bk (fun n => rfl) hi.ok (by omega)
 have hB1x : ∀ k, Bk (BH (some (.zone k)) L ++ [some (.cells X)]) 2 3 1 L := fun k => (hB1 k).app fun n => by simp [Blk.cl, cX]
 have hof := fun k => Of_any (G := G) w ((hB0 k).app (r := [none]) fun n => by simp) Inv.nil (by decide) hf hk
 have e1 : ∀ k, upd (BH (some (.zone k)) []) 2 3 1 (ofL [] w) = BH (some (.zone k)) L := fun k => by rw [hL, ofL, if_pos hw]; rfl
 have hof : ∀ k, SF G 296 [.ptr 2 0, .vs (IL w) .no] (BH (some (.zone k)) [] ++ [none]) (.tup [.agg X, .bool true]) (BH (some (.zone k)) L ++ [none]) := fun k => by
  have := hof k
  rw [(hB0 k).upd_app, ← hX, e1, hw] at this
  exact this
 have hc := fun k => BConstant_ok (G := G) p0 (hB1x k)
 have he0 := fun (k : Nat) (r : Heap) (hr : ∀ n, r.map (Option.map (Blk.cl n)) = r) => Eval_F (G := G) p0 (zeros 34) ((hB1 k).app hr) hi (by simp) (zeros_lt 34)
 have he1 := fun (k : Nat) (r : Heap) (hr : ∀ n, r.map (Option.map (Blk.cl n)) = r) => Eval_F (G := G) p0 (4294967295 :: zeros 33) ((hB1 k).app hr) hi (by simp) (fun c hc => by rcases List.mem_cons.1 hc with rfl | h; decide; exact zeros_lt 33 c h)
 have hT : toldN w = (constI L p0).toList ++ ((valI (zeros 34) L p0).toList ++ (valI (4294967295 :: zeros 33) L p0).toList) := by rw [hL, hp0]; rfl
 rw [hT]
 generalize constI L p0 = o1 at hc ⊢
 generalize valI (zeros 34) L p0 = o2 at he0 ⊢
 generalize valI (4294967295 :: zeros 33) L p0 = o3 at he1 ⊢
 obtain ⟨T, hT⟩ : ∃ T : Nat → List Nat, ∀ j, T j = ownN (w.take j) := ⟨_, fun _ => rfl⟩
 have T0 : T 0 = [] := by rw [hT]; rfl
 have TN : T w.length = ownN w := by rw [hT, List.take_length]
 have Tl : ∀ i, (T i).length ≤ i := fun i => by rw [hT]; exact Nat.le_trans (ownN_len _) (by rw [List.length_take]; omega)
 simp [FL]
 refine W_up w.length (fun i => [(0, FL w), (3, .vs (nats .u32 (T i)) (.own 0)), (18, FL w), (19, .int .i64 w.length), (20, .int .i64 i)]) (fun i => [some (.zone (T i).length)]) (fun _ => True) ?_ ?_
 ·simp [keep_cl, trunc, FL, T0]
 intro i hi' _
 by_cases hlt : i < w.length
 ·obtain ⟨x, hx⟩ : ∃ x, x = w[i] := ⟨_, rfl⟩
  have hg : w[i]? = some x := by rw [List.getElem?_eq_getElem hlt, hx]
  have hgg := FL_get hlt
  rw [← hx] at hgg
  have hal := Alu_ok (G := G) x
  have hcs : x.cs = [.int .i64 x.op, .int .i64 x.jt, .int .i64 x.jf, .int .u32 (x.k : Int)] := rfl
  have hl := Tl i
  have hs : T (i + 1) = if ownB x then T i ++ [x.k] else T i := by rw [hT, hT, List.take_add_one, hg]; exact ownN_snoc _ _
  simp only [IV, hcs] at hal
  have hsn : nats .u32 (T i) ++ [[V.int .u32 (x.k : Int)]] = nats .u32 (T i ++ [x.k]) := nats_snoc .u32 (T i) x.k
  simp (disch := omega) [ltT, FL, hgg, hcs, hlt]
  refine callP_of hal ?_
  cases ha : (aluT x.op).2.2 with
  | true =>
   cases hb : (aluT x.op).2.1 with
   | false =>
    have hy : ownB x = true := by simp [ownB, ha, hb]
    rw [if_pos hy] at hs
    have hsl : (T (i + 1)).length = (T i).length + 1 := by rw [hs]; simp
    rw [← hs] at hsn
    simp (disch := omega) [ltT, leTn, FL, hgg, hcs, hlt, hsn, hsl, add1', keep_cl, trunc, -Int.natCast_add]
   | true =>
    by_cases o0 : x.op = 0
    ·have hy : ownB x = true := by simp [ownB, o0]
     rw [if_pos hy] at hs
     have hsl : (T (i + 1)).length = (T i).length + 1 := by rw [hs]; simp
     rw [← hs] at hsn
     simp (disch := omega) [ltT, leTn, FL, hgg, hcs, hlt, o0, hsn, hsl, add1', keep_cl, trunc, -Int.natCast_add]
    by_cases o1 : x.op = 1
    ·have hy : ownB x = true := by simp [ownB, o1]
     rw [if_pos hy] at hs
     have hsl : (T (i + 1)).length = (T i).length + 1 := by rw [hs]; simp
     rw [← hs] at hsn
     simp (disch := omega) [ltT, leTn, FL, hgg, hcs, hlt, o1, hsn, hsl, add1', keep_cl, trunc, -Int.natCast_add]
    have hy : ownB x = false := by simp [ownB, hb, o0, o1]
    rw [hy] at hs
    simp only [Bool.false_eq_true, if_false] at hs
    simp (disch := omega) [ltT, leTn, FL, hgg, hcs, hlt, o0, o1, beqF o0, beqF o1, hs, add1', keep_cl, trunc, -Int.natCast_add]
  | false =>
    by_cases o0 : x.op = 0
    ·have hy : ownB x = true := by simp [ownB, o0]
     rw [if_pos hy] at hs
     have hsl : (T (i + 1)).length = (T i).length + 1 := by rw [hs]; simp
     rw [← hs] at hsn
     simp (disch := omega) [ltT, leTn, FL, hgg, hcs, hlt, o0, hsn, hsl, add1', keep_cl, trunc, -Int.natCast_add]
    by_cases o1 : x.op = 1
    ·have hy : ownB x = true := by simp [ownB, o1]
     rw [if_pos hy] at hs
     have hsl : (T (i + 1)).length = (T i).length + 1 := by rw [hs]; simp
     rw [← hs] at hsn
     simp (disch := omega) [ltT, leTn, FL, hgg, hcs, hlt, o1, hsn, hsl, add1', keep_cl, trunc, -Int.natCast_add]
    have hy : ownB x = false := by simp [ownB, ha, o0, o1]
    rw [hy] at hs
    simp only [Bool.false_eq_true, if_false] at hs
    simp (disch := omega) [ltT, leTn, FL, hgg, hcs, hlt, o0, o1, beqF o0, beqF o1, hs, add1', keep_cl, trunc, -Int.natCast_add]
 ·have hne : i = w.length := by omega
  subst hne
  have hol := ownN_len w
  obtain ⟨O, hO⟩ : ∃ O, O = ownN w := ⟨_, rfl⟩
  simp only [TN, ← hO]
  rw [← hO] at hol
  simp [FL]
  refine callK_of (New_any _) (by simp) ?_
  simp
  rw [show ([some (.zone O.length), some (.map []), some (.cells [.vs [] (.own 3), .mp 1]), some (.zone 0), none] : Heap) = BH (some (.zone O.length)) [] ++ [none] from rfl]
  refine callSF_of (hof _) ?_
  have nB : ∀ k, (BH (some (.zone k)) L).length = 4 := fun k => rfl
  have kk : ∀ (k : Nat) (r : Heap), (BH (some (.zone k)) L ++ r)[4]? = r[0]? := fun k r => apn0 (nB k)
  have k0 : ∀ (k : Nat) (r : Heap) x, (BH (some (.zone k)) L ++ r).set 4 x = BH (some (.zone k)) L ++ r.set 0 x := fun k r x => setn0 (nB k) x
  have kz : ∀ (k : Nat) (r : Heap), (BH (some (.zone k)) L ++ r)[0]? = some (some (.zone k)) := fun k r => rfl
  have sz : ∀ (k n : Nat) (r : Heap), (BH (some (.zone k)) L ++ r).set 0 (some (.zone n)) = BH (some (.zone n)) L ++ r := fun k n r => rfl
  obtain ⟨Z, hZ⟩ : ∃ Z : List V, Z = vcs (List.replicate 18 0) [] .full := ⟨_, rfl⟩
  have lZ : Z.length = 19 := by rw [hZ]; rfl
  have hZz : [V.int .i64 0, .int .i64 0, .int .i64 0, .int .i64 0, .int .i64 0, .int .i64 0, .int .i64 0, .int .i64 0, .int .i64 0, .int .i64 0, .int .i64 0, .int .i64 0, .int .i64 0, .int .i64 0, .int .i64 0, .int .i64 0, .int .i64 0, .int .i64 0, .vs [] .full] = Z := by rw [hZ]; rfl
  have tX : X.take 19 = X := List.take_of_length_le (by omega)
  have dZ : Z.drop 19 = [] := List.drop_eq_nil_of_le (by omega)
  simp [hZz, lZ, kk, k0, lX, tX, dZ, nX, cX]
  simp [hZz, lZ, kk, k0, lX, tX, dZ, nX, cX, X1]
  refine callSF_of (hc _) ?_
  rcases o1 with _ | a
  ·obtain ⟨O1, hO1⟩ : ∃ O1, O1 = O ++ [] := ⟨_, rfl⟩
   have lO1 : O1.length ≤ 40 := by rw [hO1]; simp; omega
   obtain ⟨F, hF⟩ : ∃ F : Nat → List Nat, ∀ i, F i = O1 ++ (if i = 0 then [] else if i = 1 then o2.toList else o2.toList ++ o3.toList) := ⟨_, fun _ => rfl⟩
   have F0 : F 0 = O1 := by rw [hF]; simp
   have F1 : F 1 = O1 ++ o2.toList := by rw [hF]; simp
   have F2 : F 2 = F 1 ++ o3.toList := by rw [hF, F1]; simp
   have lF : ∀ i, (F i).length ≤ 42 := fun i => by
    rw [hF]
    split
    ·simp; omega
    ·split
     ·cases o2 <;> simp <;> omega
     ·cases o2 <;> cases o3 <;> simp <;> omega
   simp (disch := omega) [nB, kk, k0, kz, sz, lX, X1, leTn, leFn]
   have hO0 : O = O1 := by rw [hO1]; simp
   refine W_up 2 (fun i => [(3, .vs (nats .u32 (F i)) (.own 0)), (9, .ptr 2 0), (10, .ptr 4 0), (71, .agg [.int .u32 0, .int .u32 4294967295]), (72, .int .i64 i)]) (fun i => BH (some (.zone (F i).length)) L ++ [some (.cells X)]) (fun _ => True) ?_ ?_
   ·have := ((hB1 O1.length).app (r := [some (.cells X)]) fun n => by simp [Blk.cl, cX]).shut.self
    simp [nB] at this
    simp [keep_cl, nB, F0, this, hO0]
   intro i hi2 _
   have lFi := lF i
   have a01 : addI .i64 0 1 = 1 := by decide
   have a11 : addI .i64 1 1 = 2 := by decide
   have ht : ∀ k : Nat, trunc 5 (BH (some (.zone k)) L ++ [some (.cells X)]) = BH (some (.zone k)) L ++ [some (.cells X)] := fun k => by
    have := ((hB1 k).app (r := [some (.cells X)]) fun n => by simp [Blk.cl, cX]).shut.self
    simpa [nB] using this
   have hb : ∀ (k : Nat), trunc 5 (BH (some (.zone k)) L ++ [some (.cells X), none]) = BH (some (.zone k)) L ++ [some (.cells X)] := fun k => by
    have := ((hB1 k).app (r := [some (.cells X)]) fun n => by simp [Blk.cl, cX]).shut.back [none]
    simpa [nB] using this
   by_cases h0 : i = 0
   ·subst h0
    simp [nB, kk, k0, kz, sz, lX, X1]
    refine callSF_of (he0 _ _ fun n => by simp [Blk.cl, cX]) ?_
    cases o2 with
    | none =>
     have F1' : F 1 = F 0 := by rw [F1, F0]; simp
     simp [nB, kk, k0, kz, sz, lX, X1, keep_cl, ht, hb, a01, a11, F1']
    | some y =>
     have F1' : F 1 = F 0 ++ [y] := by rw [F1, F0]; simp
     have l1 : (F 1).length = (F 0).length + 1 := by rw [F1']; simp
     have hsn : nats .u32 (F 0) ++ [[V.int .u32 (y : Int)]] = nats .u32 (F 1) := by rw [F1']; exact nats_snoc .u32 (F 0) y
     simp (disch := omega) [nB, kk, k0, kz, sz, lX, X1, leTn, leFn, keep_cl, ht, hb, a01, a11, hsn, l1]
   by_cases h1 : i = 1
   ·subst h1
    simp [nB, kk, k0, kz, sz, lX, X1]
    refine callSF_of (he1 _ _ fun n => by simp [Blk.cl, cX]) ?_
    cases o3 with
    | none =>
     have F2' : F 2 = F 1 := by rw [F2]; simp
     simp [nB, kk, k0, kz, sz, lX, X1, keep_cl, ht, hb, a01, a11, F2']
    | some y =>
     have F2' : F 2 = F 1 ++ [y] := by rw [F2]; simp
     have l2 : (F 2).length = (F 1).length + 1 := by rw [F2']; simp
     have hsn : nats .u32 (F 1) ++ [[V.int .u32 (y : Int)]] = nats .u32 (F 2) := by rw [F2']; exact nats_snoc .u32 (F 1) y
     simp (disch := omega) [nB, kk, k0, kz, sz, lX, X1, leTn, leFn, keep_cl, ht, hb, a01, a11, hsn, l2]
   obtain rfl : i = 2 := by omega
   have hfin : F 2 = O ++ ((none : Option Nat).toList ++ (o2.toList ++ o3.toList)) := by rw [F2, F1, hO1]; simp
   simp [hfin]
  ·obtain ⟨O1, hO1⟩ : ∃ O1, O1 = O ++ [a] := ⟨_, rfl⟩
   have lO1 : O1.length ≤ 40 := by rw [hO1]; simp; omega
   obtain ⟨F, hF⟩ : ∃ F : Nat → List Nat, ∀ i, F i = O1 ++ (if i = 0 then [] else if i = 1 then o2.toList else o2.toList ++ o3.toList) := ⟨_, fun _ => rfl⟩
   have F0 : F 0 = O1 := by rw [hF]; simp
   have F1 : F 1 = O1 ++ o2.toList := by rw [hF]; simp
   have F2 : F 2 = F 1 ++ o3.toList := by rw [hF, F1]; simp
   have lF : ∀ i, (F i).length ≤ 42 := fun i => by
    rw [hF]
    split
    ·simp; omega
    ·split
     ·cases o2 <;> simp <;> omega
     ·cases o2 <;> cases o3 <;> simp <;> omega
   simp (disch := omega) [nB, kk, k0, kz, sz, lX, X1, leTn, leFn]
   have hsn0 : nats .u32 O ++ [[V.int .u32 (a : Int)]] = nats .u32 O1 := by rw [hO1]; exact nats_snoc .u32 O a
   have l01 : O.length + 1 = O1.length := by rw [hO1]; simp
   refine W_up 2 (fun i => [(3, .vs (nats .u32 (F i)) (.own 0)), (9, .ptr 2 0), (10, .ptr 4 0), (71, .agg [.int .u32 0, .int .u32 4294967295]), (72, .int .i64 i)]) (fun i => BH (some (.zone (F i).length)) L ++ [some (.cells X), none]) (fun _ => True) ?_ ?_
   ·have := ((hB1 O1.length).app (r := [some (.cells X), none]) fun n => by simp [Blk.cl, cX]).shut.self
    simp [nB] at this
    simp [keep_cl, nB, F0, this, hO1.symm, l01]
   intro i hi2 _
   have lFi := lF i
   have a01 : addI .i64 0 1 = 1 := by decide
   have a11 : addI .i64 1 1 = 2 := by decide
   have ht : ∀ k : Nat, trunc 6 (BH (some (.zone k)) L ++ [some (.cells X), none]) = BH (some (.zone k)) L ++ [some (.cells X), none] := fun k => by
    have := ((hB1 k).app (r := [some (.cells X), none]) fun n => by simp [Blk.cl, cX]).shut.self
    simpa [nB] using this
   have hb : ∀ (k : Nat), trunc 6 (BH (some (.zone k)) L ++ [some (.cells X), none, none]) = BH (some (.zone k)) L ++ [some (.cells X), none] := fun k => by
    have := ((hB1 k).app (r := [some (.cells X), none]) fun n => by simp [Blk.cl, cX]).shut.back [none]
    simpa [nB] using this
   by_cases h0 : i = 0
   ·subst h0
    simp [nB, kk, k0, kz, sz, lX, X1]
    refine callSF_of (he0 _ _ fun n => by simp [Blk.cl, cX]) ?_
    cases o2 with
    | none =>
     have F1' : F 1 = F 0 := by rw [F1, F0]; simp
     simp [nB, kk, k0, kz, sz, lX, X1, keep_cl, ht, hb, a01, a11, F1']
    | some y =>
     have F1' : F 1 = F 0 ++ [y] := by rw [F1, F0]; simp
     have l1 : (F 1).length = (F 0).length + 1 := by rw [F1']; simp
     have hsn : nats .u32 (F 0) ++ [[V.int .u32 (y : Int)]] = nats .u32 (F 1) := by rw [F1']; exact nats_snoc .u32 (F 0) y
     simp (disch := omega) [nB, kk, k0, kz, sz, lX, X1, leTn, leFn, keep_cl, ht, hb, a01, a11, hsn, l1]
   by_cases h1 : i = 1
   ·subst h1
    simp [nB, kk, k0, kz, sz, lX, X1]
    refine callSF_of (he1 _ _ fun n => by simp [Blk.cl, cX]) ?_
    cases o3 with
    | none =>
     have F2' : F 2 = F 1 := by rw [F2]; simp
     simp [nB, kk, k0, kz, sz, lX, X1, keep_cl, ht, hb, a01, a11, F2']
    | some y =>
     have F2' : F 2 = F 1 ++ [y] := by rw [F2]; simp
     have l2 : (F 2).length = (F 1).length + 1 := by rw [F2']; simp
     have hsn : nats .u32 (F 1) ++ [[V.int .u32 (y : Int)]] = nats .u32 (F 2) := by rw [F2']; exact nats_snoc .u32 (F 1) y
     simp (disch := omega) [nB, kk, k0, kz, sz, lX, X1, leTn, leFn, keep_cl, ht, hb, a01, a11, hsn, l2]
   obtain rfl : i = 2 := by omega
   have hfin : F 2 = O ++ ((some a).toList ++ (o2.toList ++ o3.toList)) := by rw [F2, F1, hO1]; simp
   simp [hfin]
end Go.Ev
/- Letters: one is put. -/
namespace Go.Ev
open Go Go.RowKit
variable {G : Tbl}
set_option maxRecDepth 10000
set_option maxHeartbeats 4000000
set_option linter.unusedSimpArgs false
set_option linter.unusedVariables false
def ltr (l : List In4) (x : In4) : List In4 := if x ∈ l then l else if winB [x] = true then l ++ [x] else l
theorem ltr_len (l : List In4) (x : In4) : (ltr l x).length ≤ l.length + 1 := by unfold ltr; split; omega; split <;> simp
def mls (l : List In4) : List (V × V) := l.map fun x => (IV x, .bool true)
theorem mls_in {x : In4} : ∀ {l : List In4} (i : Nat), x ∈ l → mfind (.row [.int, .int, .int, .int]) (.agg x.cs) (mls l) i = some (some (i + l.idxOf x, .bool true))
 | [], i, h => by cases h
 | y :: l, i, h => by
  simp only [mls, List.map_cons, mfind, keyEq, IV, aeq4]
  by_cases e : x = y
  ·subst e; simp
  ·have hm : x ∈ l := by simpa [e] using h
   have ih := mls_in (i + 1) hm
   have hix : (y :: l).idxOf x = l.idxOf x + 1 := by rw [List.idxOf_cons, beq_false_of_ne (Ne.symm e)]; rfl
   simp only [mls, IV] at ih
   simp only [e, decide_false, ih, hix, show i + 1 + l.idxOf x = i + (l.idxOf x + 1) from by omega]
theorem mls_out {x : In4} : ∀ {l : List In4} (i : Nat), x ∉ l → mfind (.row [.int, .int, .int, .int]) (.agg x.cs) (mls l) i = some none
 | [], i, _ => rfl
 | y :: l, i, h => by
  simp only [List.mem_cons, not_or] at h
  have ih := mls_out (i + 1) h.2
  simp only [mls, IV] at ih
  simp only [mls, List.map_cons, mfind, keyEq, IV, aeq4, h.1, decide_false, ih]
def BL3 (a b : List In4) (n : Nat) : Heap := [some (.cells [.vs (IL a) (.own 3)]), some (.map (mls b)), some (.cells [.mp 1]), some (.zone n)]
def BL (l : List In4) : Heap := BL3 l l l.length
theorem BL_shut (a b : List In4) (n : Nat) : HShut (BL3 a b n) := by
 intro m hm
 simp only [BL3, List.length_cons, List.length_nil] at hm
 have hmap : (mls b).map (fun p => (p.1.cl m, p.2.cl m)) = mls b := by
  simp [mls, IV, In4.cs, V.cl, clL, Function.comp_def]
 simp [BL3, Blk.cl, clL, V.cl, Tk.cl, show 3 < m by omega, show 1 < m by omega, hmap]
theorem put1_ok [HasIns G] [HasCheck G] [HasWRight G] [HasSrcL G] (l : List In4) (x : In4) (r : Heap) (hr : ∀ n, r.map (Option.map (Blk.cl n)) = r) (hl : l.length ≤ 1000000) (hk : x.k < 4294967296) :
  SF G 327 [IV x, .ptr 2 0, .ptr 0 0] (BL l ++ r) (.tup []) (BL (ltr l x) ++ r) := by
 refine SF_of HasSrcL.h_search_Letters_1 (Nat.le_of_ble_eq_true rfl) ?_
 have nB : ∀ a b n, (BL3 a b n).length = 4 := fun a b n => rfl
 have hxl : x.cs.length = 4 := rfl
 have hxt : x.cs.take 4 = x.cs := rfl
 have kx : ∀ n, clL n x.cs = x.cs := fun n => by simp [In4.cs, clL, V.cl]
 have nx : x.cs.map V.nf1 = x.cs := rfl
 have g0 : ∀ a b n (s : Heap), (BL3 a b n ++ s)[0]? = some (some (.cells [.vs (IL a) (.own 3)])) := fun a b n s => rfl
 have g1 : ∀ a b n (s : Heap), (BL3 a b n ++ s)[1]? = some (some (.map (mls b))) := fun a b n s => rfl
 have g2 : ∀ a b n (s : Heap), (BL3 a b n ++ s)[2]? = some (some (.cells [.mp 1])) := fun a b n s => rfl
 have g3 : ∀ a b n (s : Heap), (BL3 a b n ++ s)[3]? = some (some (.zone n)) := fun a b n s => rfl
 have s0 : ∀ a a' b n (s : Heap), (BL3 a b n ++ s).set 0 (some (.cells [.vs (IL a') (.own 3)])) = BL3 a' b n ++ s := fun a a' b n s => rfl
 have s1 : ∀ a b b' n (s : Heap), (BL3 a b n ++ s).set 1 (some (.map (mls b'))) = BL3 a b' n ++ s := fun a b b' n s => rfl
 have s3 : ∀ a b n n' (s : Heap), (BL3 a b n ++ s).set 3 (some (.zone n')) = BL3 a b n' ++ s := fun a b n n' s => rfl
 have kk : ∀ a b n (s : Heap), (BL3 a b n ++ (r ++ s))[4 + r.length]? = s[0]? := fun a b n s => by
  rw [← List.append_assoc]; exact apn0 (by simp [nB])
 have k0 : ∀ a b n (s : Heap) y, (BL3 a b n ++ (r ++ s)).set (4 + r.length) y = BL3 a b n ++ (r ++ s.set 0 y) := fun a b n s y => by
  rw [← List.append_assoc, setn0 (by simp [nB]), List.append_assoc]
 have hpu : (∀ y ∈ x.cs, y.pure = true) = True := eq_true (fun y hy => by simp only [In4.cs, List.mem_cons, List.not_mem_nil, or_false] at hy; rcases hy with rfl | rfl | rfl | rfl <;> rfl)
 have hself := aeq4 x x
 simp only [decide_true] at hself
 have hwr := WRight_ok (G := G) [x] (by simp [maxLen]) (fun y hy => by simp at hy; rw [hy]; exact hk)
 simp only [FL, IL, List.map_cons, List.map_nil] at hwr
 have bk : ∀ a b n (s : Heap), trunc (4 + r.length) (BL3 a b n ++ (r ++ s)) = BL3 a b n ++ r := fun a b n s => by
  have := ((BL_shut a b n).app hr).back s
  rw [List.append_assoc, List.length_append, nB] at this
  exact this
 simp [BL, nB, IV, hxl, hxt, kx, nx, g0, g1, g2, g3, kk, k0, keyEq, hself]
 by_cases hin : x ∈ l
 ·have hR : ltr l x = l := if_pos hin
  simp [mls_in 0 hin, hR, bk]
 ·simp [mls_out 0 hin, keyEq, hself, hxl, hxt, kx, nx, g0, g1, g2, g3, kk, k0, hpu]
  refine callP_of hwr ?_
  cases hw : winB [x] with
  | false =>
   have hR : ltr l x = l := by rw [ltr, if_neg hin, hw]; rfl
   simp [hR, bk]
  | true =>
   have hR : ltr l x = l ++ [x] := by rw [ltr, if_neg hin, hw]; rfl
   have hm : mls l ++ [(V.agg x.cs, V.bool true)] = mls (l ++ [x]) := by simp [mls, IV]
   have hil : IL l ++ [x.cs] = IL (l ++ [x]) := by simp [IL]
   have hpure : x.cs.all V.pure = true := rfl
   have hisz : ∀ f ∈ IL l, f.length = 4 := fun f hf => by simp only [IL, List.mem_map] at hf; obtain ⟨y, _, rfl⟩ := hf; rfl
   have hb : (l.length + 1) * 32 ≤ 140737488355328 := by omega
   have s0' : ∀ a a' b n, (BL3 a b n).set 0 (some (.cells [.vs (IL a') (.own 3)])) = BL3 a' b n := fun a a' b n => rfl
   have s1' : ∀ a b b' n, (BL3 a b n).set 1 (some (.map (mls b'))) = BL3 a b' n := fun a b b' n => rfl
   have s3' : ∀ a b n n', (BL3 a b n).set 3 (some (.zone n')) = BL3 a b n' := fun a b n n' => rfl
   simp [mls_out 0 hin, keyEq, hself, hxl, hxt, kx, nx, g0, g1, g2, g3, kk, k0, nB, hm, s1, hpu, s0', s1', s3', hb, hR, bk]
theorem callVF_of {f : Nat} {cap args : List V} {r : V} {H H' : Heap} {base : Nat} {d : Option Nat} {os : List SOper} {K : List Kt} {e : Env} {Q : Ex → Env → Heap → Prop} (h : SF G f (args ++ cap) H r H')
  (hr : WO G base os K (e.put d r) H' Q) : callV G false (.fn f cap) args base d os K e H Q := by
 obtain ⟨r1, H1, hb, hr1, ht⟩ := h
 refine callV_of hb (fun h => by cases h) ?_
 rw [hr1, ht]
 exact hr
theorem with19_ok [HasR2 G] [HasR5o G] [HasR17 G] [HasR19 G] (l : List In4) (x : In4) (hl : l.length ≤ 1000000) (hk : x.k < 4294967296) : FP G 331 [FL l, IV x] (FL (ltr l x)) := by
 refine FP_of HasR19.h_hurdleref19_with (Nat.le_of_ble_eq_true rfl) ?_
 have hxl : x.cs.length = 4 := rfl
 have hxt : x.cs.take 4 = x.cs := rfl
 have kx : ∀ n, clL n x.cs = x.cs := fun n => by simp [In4.cs, clL, V.cl]
 have nx : x.cs.map V.nf1 = x.cs := rfl
 have hpu : (∀ y ∈ x.cs, y.pure = true) = True := eq_true (fun y hy => by simp only [In4.cs, List.mem_cons, List.not_mem_nil, or_false] at hy; rcases hy with rfl | rfl | rfl | rfl <;> rfl)
 have hwr := Right17_ok (G := G) [x] (by simp) (fun y hy => by simp at hy; rw [hy]; exact hk)
 simp only [FL, IL, List.map_cons, List.map_nil] at hwr
 simp [IV, nx]
 refine W_up l.length (fun i => [(0, FL l), (3, .ptr 0 0), (5, .int .i64 i)]) (fun _ => [some (.cells x.cs)]) (fun i => ∀ j < i, l[j]? ≠ some x) ?_ ?_
 ·simp [keep_cl, trunc, FL, kx]
 intro i hi hP
 by_cases hlt : i < l.length
 ·obtain ⟨y, hy⟩ : ∃ y, y = l[i] := ⟨_, rfl⟩
  have hg : l[i]? = some y := by rw [List.getElem?_eq_getElem hlt, hy]
  have hgg := FL_get hlt
  rw [← hy] at hgg
  have hyl : y.cs.length = 4 := rfl
  have hae := aeq4 y x
  by_cases e : y = x
  ·have hm : x ∈ l := by rw [← e, hy]; exact List.getElem_mem hlt
   have hR : ltr l x = l := if_pos hm
   have hse := aeq4 x x
   simp only [decide_true] at hse
   simp (disch := omega) [ltT, FL, hgg, hyl, hxl, hxt, hse, e, hR]
  ·have hP2 : ∀ j < i + 1, l[j]? ≠ some x := fun j hj => by
    rcases Nat.lt_succ_iff_lt_or_eq.1 hj with h | rfl
    ·exact hP j h
    ·rw [hg]; simp [e]
   simp (disch := omega) [ltT, FL, hgg, hyl, hxl, hxt, hae, e, hlt, add1', keep_cl, trunc, kx, -Int.natCast_add]
   exact hP2
 ·have hne : i = l.length := by omega
  subst hne
  have hin : x ∉ l := fun h => by
   obtain ⟨j, hj⟩ := List.getElem?_of_mem h
   exact hP j (List.getElem?_eq_some_iff.1 hj).1 hj
  simp [FL, hxl, hxt, hpu]
  refine callP_of hwr ?_
  cases hw : winB [x] with
  | false =>
   have hR : ltr l x = l := by rw [ltr, if_neg hin, hw]; rfl
   simp [hR]
  | true =>
   have hR : ltr l x = l ++ [x] := by rw [ltr, if_neg hin, hw]; rfl
   have hil : IL l ++ [x.cs] = IL (l ++ [x]) := by simp [IL]
   have hb : l.length * 32 ≤ 140737488355328 := by omega
   have hb2 : (l.length + 1) * 32 ≤ 140737488355328 := by omega
   by_cases hn : l = []
   ·have hil0 : IL l = [] := by rw [hn]; rfl
    subst hn
    simp [FL, hxl, hxt, hpu, hR, hb, hb2, IL]
   ·have hil0 : (IL l = []) = False := eq_false (fun h => hn ((IL_eq_nil l).1 h))
    simp [FL, hxl, hxt, hpu, hR, hb, hb2, hil0]
end Go.Ev
/- A window's letters. -/
namespace Go.Ev
open Go Go.RowKit
variable {G : Tbl}
set_option maxRecDepth 10000
set_option maxHeartbeats 4000000
set_option linter.unusedSimpArgs false
set_option linter.unusedVariables false
def ltrs (l xs : List In4) : List In4 := xs.foldl ltr l
theorem ltrs_len : ∀ (xs l : List In4), (ltrs l xs).length ≤ l.length + xs.length
 | [], l => Nat.le_refl _
 | x :: xs, l => by
  have h1 := ltrs_len xs (ltr l x)
  have h2 := ltr_len l x
  show (ltrs (ltr l x) xs).length ≤ _
  rw [List.length_cons]; omega
theorem ltrs_snoc (l xs : List In4) (x : In4) : ltrs l (xs ++ [x]) = ltr (ltrs l xs) x := by simp [ltrs]
theorem ltrs_append (l xs ys : List In4) : ltrs l (xs ++ ys) = ltrs (ltrs l xs) ys := by simp [ltrs]
def ops6 : List Nat := [0, 1, 4, 84, 68, 164]
def lops (n : Nat) : List In4 := ops6.map fun (o : Nat) => (⟨o, 0, 0, n⟩ : In4)
def lettersL (w : List In4) (nums : List Nat) : List In4 := ltrs (ltrs (ltrs [] w) [⟨7, 0, 0, 0⟩, ⟨135, 0, 0, 0⟩]) (nums.flatMap lops)
theorem Letters_no [HasIns G] [HasCheck G] [HasWRight G] [HasSrcL G] (w : List In4) (hf : w.length ≤ maxLen) (hk : ∀ x ∈ w, x.k < 4294967296) (hw : winB w = false) : FP G 330 [FL w] (.tup [FL [], .int .i64 1]) := by
 refine FP_of HasSrcL.h_search_Letters (Nat.le_of_ble_eq_true rfl) ?_
 have hwr := WRight_ok (G := G) w hf hk
 rw [hw] at hwr
 simp only [FL] at hwr
 simp [FL]
 refine callP_of hwr ?_
 simp
theorem Letters_ok [HasWd G] [HasNeg G] [HasIns G] [HasCheck G] [HasWRight G] [HasAffine G] [hB : HasBitsE G] [HasSymNew G] [HasSym G] [HasSymEval G] [HasWinOf G] [HasSrcN G] [HasSrcL G] (w : List In4) (hf : w.length ≤ maxLen) (hk : ∀ x ∈ w, x.k < 4294967296) (hw : winB w = true)
  (hn : ∀ n ∈ ownN w ++ toldN w, n < 4294967296) : FP G 330 [FL w] (.tup [FL (lettersL w (ownN w ++ toldN w)), .int .i64 0]) := by
 refine FP_of HasSrcL.h_search_Letters (Nat.le_of_ble_eq_true rfl) ?_
 have hwr := WRight_ok (G := G) w hf hk
 have hnu := numbers_ok (G := G) w hf hk hw
 have hw32 : w.length ≤ 32 := by simp only [winB, Bool.and_eq_true, decide_eq_true_eq] at hw; exact hw.1
 have hnl : (ownN w ++ toldN w).length ≤ 35 := by
  have := ownN_len w
  rw [List.length_append, toldN]
  simp only [List.length_append]
  have h1 : ∀ o : Option Nat, o.toList.length ≤ 1 := fun o => by cases o <;> simp
  have a1 := h1 (constI (winV [] w).L ((winV [] w).p.getD 0 0))
  have a2 := h1 (valI (zeros 34) (winV [] w).L ((winV [] w).p.getD 0 0))
  have a3 := h1 (valI (4294967295 :: zeros 33) (winV [] w).L ((winV [] w).p.getD 0 0))
  omega
 generalize ownN w ++ toldN w = nums at hnu hnl hn ⊢
 rw [hw] at hwr
 simp only [FL] at hwr hnu
 simp [FL]
 refine callP_of hwr ?_
 obtain ⟨T, hT⟩ : ∃ T : Nat → List In4, ∀ j, T j = ltrs [] (w.take j) := ⟨_, fun _ => rfl⟩
 have T0 : T 0 = [] := by rw [hT]; rfl
 have TN : T w.length = ltrs [] w := by rw [hT, List.take_length]
 have Tl : ∀ i, i ≤ w.length → (T i).length ≤ i := fun i hi => by rw [hT]; have := ltrs_len (w.take i) []; rw [List.length_take] at this; simp at this; omega
 have nB : ∀ l, (BL l).length = 4 := fun l => rfl
 have kk : ∀ l (r : Heap), (BL l ++ r)[4]? = r[0]? := fun l r => apn0 (nB l)
 have k0 : ∀ l (r : Heap) x, (BL l ++ r).set 4 x = BL l ++ r.set 0 x := fun l r x => setn0 (nB l) x
 have bk : ∀ l (r : Heap), trunc 4 (BL l ++ r) = BL l := fun l r => (BL_shut l l l.length).back r
 have bk0 : ∀ l, trunc 4 (BL l) = BL l := fun l => (BL_shut l l l.length).self
 have hg0 : ∀ l, (BL l)[0]? = some (some (.cells [.vs (IL l) (.own 3)])) := fun l => rfl
 have hE : ([some (.cells [.vs [] (.own 3)]), some (.map []), some (.cells [.mp 1]), some (.zone 0)] : Heap) = BL [] := rfl
 simp [hE]
 refine W_up w.length (fun i => [(0, FL w), (4, .ptr 0 0), (6, .fn 327 [.ptr 2 0, .ptr 0 0]), (18, FL w), (19, .int .i64 w.length), (20, .int .i64 i)]) (fun i => BL (T i)) (fun _ => True) ?_ ?_
 ·simp [keep_cl, FL, T0, nB, bk0]
 intro i hi _
 by_cases hlt : i < w.length
 ·obtain ⟨x, hx⟩ : ∃ x, x = w[i] := ⟨_, rfl⟩
  have hg : w[i]? = some x := by rw [List.getElem?_eq_getElem hlt, hx]
  have hgg := FL_get hlt
  rw [← hx] at hgg
  have hxl : x.cs.length = 4 := rfl
  have hxt : x.cs.take 4 = x.cs := rfl
  have hxd : ([V.int .i64 0, .int .i64 0, .int .i64 0, .int .u32 0] : List V).drop 4 = [] := rfl
  have hxk := hk x (hx ▸ List.getElem_mem hlt)
  have nx : x.cs.map V.nf1 = x.cs := rfl
  have hs : T (i + 1) = ltr (T i) x := by rw [hT, hT, List.take_add_one, hg]; exact ltrs_snoc _ _ _
  have hp := put1_ok (G := G) (T i) x [some (.cells x.cs)] (fun n => by simp [Blk.cl, In4.cs, clL, V.cl]) (by have := Tl i hi; omega) hxk
  simp only [IV] at hp
  simp (disch := omega) [ltT, FL, hgg, hxl, hxt, hlt, nB, kk, k0]
  refine callVF_of hp ?_
  simp (disch := omega) [hlt, hs, add1', keep_cl, FL, nB, bk, -Int.natCast_add]
 ·have hne : i = w.length := by omega
  subst hne
  have hp7 := put1_ok (G := G) (ltrs [] w) ⟨7, 0, 0, 0⟩ [] (fun n => rfl) (by have := ltrs_len w []; simp at this; omega) (by decide)
  have hp8 := put1_ok (G := G) (ltr (ltrs [] w) ⟨7, 0, 0, 0⟩) ⟨135, 0, 0, 0⟩ [] (fun n => rfl) (by have := ltrs_len w []; have := ltr_len (ltrs [] w) ⟨7, 0, 0, 0⟩; simp at *; omega) (by decide)
  obtain ⟨B, hB⟩ : ∃ B, B = ltr (ltr (ltrs [] w) ⟨7, 0, 0, 0⟩) ⟨135, 0, 0, 0⟩ := ⟨_, rfl⟩
  rw [← hB] at hp8
  have hBl : B.length ≤ 34 := by rw [hB]; have h1 := ltrs_len w []; have h2 := ltr_len (ltrs [] w) ⟨7, 0, 0, 0⟩; have h3 := ltr_len (ltr (ltrs [] w) ⟨7, 0, 0, 0⟩) ⟨135, 0, 0, 0⟩; simp at h1; omega
  have hres : lettersL w nums = ltrs B (nums.flatMap lops) := by rw [hB]; rfl
  simp only [IV, In4.cs, List.append_nil] at hp7 hp8
  simp [FL, TN]
  refine callVF_of hp7 ?_
  simp [FL]
  refine callVF_of hp8 ?_
  simp [FL]
  refine callP_of hnu ?_
  obtain ⟨U, hU⟩ : ∃ U : Nat → List In4, ∀ j, U j = ltrs B ((nums.take j).flatMap lops) := ⟨_, fun _ => rfl⟩
  have U0 : U 0 = B := by rw [hU]; rfl
  have UN : U nums.length = lettersL w nums := by rw [hU, List.take_length, hres]
  have Ul : ∀ i, (U i).length ≤ 34 + 6 * 35 := fun i => by
   rw [hU]
   have h1 := ltrs_len ((nums.take i).flatMap lops) B
   have h2 : ((nums.take i).flatMap lops).length = 6 * (nums.take i).length := by
    generalize nums.take i = l
    induction l with
    | nil => rfl
    | cons a l ih => rw [List.flatMap_cons, List.length_append, ih, List.length_cons]; simp [lops, ops6]; omega
   rw [h2, List.length_take] at h1
   omega
  simp [FL, hg0]
  refine W_up nums.length (fun i => [(4, .ptr 0 0), (6, .fn 327 [.ptr 2 0, .ptr 0 0]), (35, .vs (nats .u32 nums) .no), (36, .int .i64 nums.length), (37, .int .i64 i)]) (fun i => BL (U i)) (fun _ => True) ?_ ?_
  ·simp [keep_cl, FL, U0, nB, bk0]
  intro i hi2 _
  by_cases hlt : i < nums.length
  ·obtain ⟨n, hn'⟩ : ∃ n, n = nums[i] := ⟨_, rfl⟩
   have hgn : nums[i]? = some n := by rw [List.getElem?_eq_getElem hlt, hn']
   have hnk := hn n (hn' ▸ List.getElem_mem hlt)
   obtain ⟨Y, hY⟩ : ∃ Y : Nat → List In4, ∀ j, Y j = ltrs (U i) ((lops n).take j) := ⟨_, fun _ => rfl⟩
   have Y0 : Y 0 = U i := by rw [hY]; rfl
   have Y6 : Y 6 = U (i + 1) := by
    rw [hY, hU, hU, List.take_of_length_le (show (lops n).length ≤ 6 from Nat.le_refl _), List.take_add_one, hgn]
    simp [ltrs_append]
   have Yl : ∀ j, (Y j).length ≤ 34 + 6 * 35 + 6 := fun j => by
    rw [hY]
    have h1 := ltrs_len ((lops n).take j) (U i)
    have h2 := Ul i
    have h3 : (lops n).length = 6 := rfl
    rw [List.length_take, h3] at h1
    omega
   obtain ⟨L6, hL6⟩ : ∃ L6 : List V, L6 = [.int .i64 0, .int .i64 1, .int .i64 4, .int .i64 84, .int .i64 68, .int .i64 164] := ⟨_, rfl⟩
   have l6 : L6.length = 6 := by rw [hL6]; rfl
   have kL : ∀ m, clL m L6 = L6 := fun m => by rw [hL6]; simp [clL, V.cl]
   have hidx : ∀ j, j < 6 → (L6.drop j).take 1 = [.int .i64 (ops6.getD j 0 : Nat)] := fun j hj => by
    rw [hL6]
    rcases (by omega : j = 0 ∨ j = 1 ∨ j = 2 ∨ j = 3 ∨ j = 4 ∨ j = 5) with rfl | rfl | rfl | rfl | rfl | rfl <;> rfl
   simp (disch := omega) [ltT, hlt, hgn, hn'.symm, ← hL6, hg0]
   refine W_up 6 (fun j => [(4, .ptr 0 0), (6, .fn 327 [.ptr 2 0, .ptr 0 0]), (10, .int .u32 n), (35, .vs (nats .u32 nums) .no), (36, .int .i64 nums.length), (37, .int .i64 i), (41, .agg L6), (42, .int .i64 j)]) (fun j => BL (Y j)) (fun _ => True) ?_ ?_
   ·simp [keep_cl, Y0, nB, bk0, kL]
   intro j hj _
   by_cases hj6 : j < 6
   ·obtain ⟨o, ho⟩ : ∃ o, o = ops6.getD j 0 := ⟨_, rfl⟩
    have hs : Y (j + 1) = ltr (Y j) ⟨o, 0, 0, n⟩ := by
     rw [hY, hY, List.take_add_one, ← ltrs_snoc]
     congr 2
     have : (lops n)[j]? = some ⟨o, 0, 0, n⟩ := by
      rw [ho]
      rcases (by omega : j = 0 ∨ j = 1 ∨ j = 2 ∨ j = 3 ∨ j = 4 ∨ j = 5) with rfl | rfl | rfl | rfl | rfl | rfl <;> rfl
     rw [this]; rfl
    have hi6 := hidx j hj6
    rw [← ho] at hi6
    have hp := put1_ok (G := G) (Y j) ⟨o, 0, 0, n⟩ [] (fun n => rfl) (by have := Yl j; omega) hnk
    simp only [IV, In4.cs, List.append_nil] at hp
    simp (disch := omega) [ltT, hj6, l6, hi6, leTn]
    refine callVF_of hp ?_
    simp (disch := omega) [hj6, hs, add1', keep_cl, nB, bk0, kL, -Int.natCast_add]
   ·obtain rfl : j = 6 := by omega
    simp (disch := omega) [hlt, add1', keep_cl, nB, bk0, Y6, -Int.natCast_add]
  ·have hne : i = nums.length := by omega
   subst hne
   simp [hg0, UN]
end Go.Ev
/- Letters, by the document. -/
namespace Go.Ev
open Go Go.RowKit
variable {G : Tbl}
set_option maxRecDepth 10000
set_option maxHeartbeats 4000000
set_option linter.unusedSimpArgs false
set_option linter.unusedVariables false
theorem LettersR_ok [HasR2 G] [HasR5o G] [HasR17 G] [HasR19 G] (w : List In4) (more : List Nat) (hf : w.length ≤ 100) (hm : more.length ≤ 10) (hk : ∀ x ∈ w, x.k < 4294967296) (hn : ∀ n ∈ ownN w ++ more, n < 4294967296) :
  FP G 337 [FL w, .vs (nats .u32 more) .no] (FL (lettersL w (ownN w ++ more))) := by
 refine FP_of HasR19.h_hurdleref19_Letters (Nat.le_of_ble_eq_true rfl) ?_
 have hol := ownN_len w
 obtain ⟨nums, hnums⟩ : ∃ nums, nums = ownN w ++ more := ⟨_, rfl⟩
 have hnl : nums.length ≤ 110 := by rw [hnums, List.length_append]; omega
 obtain ⟨T, hT⟩ : ∃ T : Nat → List In4, ∀ j, T j = ltrs [] (w.take j) := ⟨_, fun _ => rfl⟩
 have T0 : T 0 = [] := by rw [hT]; rfl
 have TN : T w.length = ltrs [] w := by rw [hT, List.take_length]
 have Tl : ∀ i, i ≤ w.length → (T i).length ≤ i := fun i hi => by rw [hT]; have := ltrs_len (w.take i) []; rw [List.length_take] at this; simp at this; omega
 have hown := own_B (G := G) w (by omega)
 simp only [FL] at hown
 simp [FL]
 refine W_up w.length (fun i => [(0, FL w), (1, .vs (nats .u32 more) .no), (5, .vs (IL (T i)) (if i = 0 then .full else .no)), (6, .int .i64 i)]) (fun _ => []) (fun _ => True) ?_ ?_
 ·simp [keep_cl, trunc, FL, T0]
 intro i hi _
 have htk : ((if i = 0 then Tk.full else Tk.no) = .full ∨ (if i = 0 then Tk.full else Tk.no) = .no) := by split <;> simp
 generalize hte : (if i = 0 then Tk.full else Tk.no) = te at htk
 by_cases hlt : i < w.length
 ·obtain ⟨x, hx⟩ : ∃ x, x = w[i] := ⟨_, rfl⟩
  have hg : w[i]? = some x := by rw [List.getElem?_eq_getElem hlt, hx]
  have hgg := FL_get hlt
  rw [← hx] at hgg
  have hxl : x.cs.length = 4 := rfl
  have hxt : x.cs.take 4 = x.cs := rfl
  have nx : x.cs.map V.nf1 = x.cs := rfl
  have hxk := hk x (hx ▸ List.getElem_mem hlt)
  have hs : T (i + 1) = ltr (T i) x := by rw [hT, hT, List.take_add_one, hg]; exact ltrs_snoc _ _ _
  have hw := with19_ok (G := G) (T i) x (by have := Tl i hi; omega) hxk
  simp only [IV, FL] at hw
  rcases htk with rfl | rfl
  all_goals
   simp (disch := omega) [ltT, FL, hgg, hxl, hxt, nx, hlt]
   refine callP_of hw ?_
   simp (disch := omega) [hlt, hs, add1', keep_cl, trunc, FL, -Int.natCast_add]
 ·have hne : i = w.length := by omega
  subst hne
  have hp7 := with19_ok (G := G) (ltrs [] w) ⟨7, 0, 0, 0⟩ (by have := ltrs_len w []; simp at this; omega) (by decide)
  have hp8 := with19_ok (G := G) (ltr (ltrs [] w) ⟨7, 0, 0, 0⟩) ⟨135, 0, 0, 0⟩ (by have := ltrs_len w []; have := ltr_len (ltrs [] w) ⟨7, 0, 0, 0⟩; simp at *; omega) (by decide)
  obtain ⟨B, hB⟩ : ∃ B, B = ltr (ltr (ltrs [] w) ⟨7, 0, 0, 0⟩) ⟨135, 0, 0, 0⟩ := ⟨_, rfl⟩
  rw [← hB] at hp8
  have hBl : B.length ≤ 102 := by rw [hB]; have h1 := ltrs_len w []; have h2 := ltr_len (ltrs [] w) ⟨7, 0, 0, 0⟩; have h3 := ltr_len (ltr (ltrs [] w) ⟨7, 0, 0, 0⟩) ⟨135, 0, 0, 0⟩; simp at h1; omega
  have hres : lettersL w nums = ltrs B (nums.flatMap lops) := by rw [hB]; rfl
  simp only [IV, In4.cs, FL] at hp7 hp8
  have hb2 : (ownN w).length + more.length ≤ 1000 := by omega
  have happ : nats .u32 (ownN w) ++ nats .u32 more = nats .u32 nums := by rw [hnums]; simp [nats]
  have hlen : (ownN w).length + more.length = nums.length := by rw [hnums, List.length_append]
  obtain ⟨U, hU⟩ : ∃ U : Nat → List In4, ∀ j, U j = ltrs B ((nums.take j).flatMap lops) := ⟨_, fun _ => rfl⟩
  have U0 : U 0 = B := by rw [hU]; rfl
  have UN : U nums.length = lettersL w nums := by rw [hU, List.take_length, hres]
  have Ul : ∀ i, (U i).length ≤ 102 + 6 * 110 := fun i => by
   rw [hU]
   have h1 := ltrs_len ((nums.take i).flatMap lops) B
   have h2 : ((nums.take i).flatMap lops).length = 6 * (nums.take i).length := by
    generalize nums.take i = l
    induction l with
    | nil => rfl
    | cons a l ih => rw [List.flatMap_cons, List.length_append, ih, List.length_cons]; simp [lops, ops6]; omega
   rw [h2, List.length_take] at h1
   omega
  rw [← hnums] at hn ⊢
  rcases htk with rfl | rfl
  all_goals
   simp [FL, TN]
   refine callP_of hp7 ?_
   simp [FL]
   refine callP_of hp8 ?_
   simp [FL]
   refine callK_of hown (by simp) ?_
   obtain ⟨L6, hL6⟩ : ∃ L6 : List (List V), L6 = ints .i64 [0, 1, 4, 84, 68, 164] := ⟨_, rfl⟩
   have hL6z : [[V.int .i64 0], [.int .i64 1], [.int .i64 4], [.int .i64 84], [.int .i64 68], [.int .i64 164]] = L6 := by rw [hL6]; rfl
   have l6 : L6.length = 6 := by rw [hL6]; rfl
   have hidx : ∀ j, j < 6 → L6[j]? = some [.int .i64 (ops6.getD j 0 : Nat)] := fun j hj => by
    rw [hL6]
    rcases (by omega : j = 0 ∨ j = 1 ∨ j = 2 ∨ j = 3 ∨ j = 4 ∨ j = 5) with rfl | rfl | rfl | rfl | rfl | rfl <;> rfl
   have hif : ∀ (inst : Decidable (nats .u32 more = [])), (@ite _ (nats .u32 more = []) inst (some (V.vs (nats .u32 (ownN w)) (.own 1), ([none, some (.zone (ownN w).length)] : Heap))) (some (V.vs (nats .u32 nums) (.own 1), [none, some (.zone nums.length)]))) = some (V.vs (nats .u32 nums) (.own 1), [none, some (.zone nums.length)]) := fun inst => by
    split
    ·rename_i h
     have : more = [] := by simpa [nats] using h
     rw [hnums, this, List.append_nil]
    ·rfl
   simp (disch := omega) [happ, hlen, hL6z, leTn, keep_cl, hif]
   refine W_up nums.length (fun i => [(5, .vs (IL (U i)) .no), (7, .vs (nats .u32 nums) (.own 1)), (8, .vs L6 .full), (9, .int .i64 i)]) (fun _ => [none, some (.zone nums.length)]) (fun _ => True) ?_ ?_
   ·simp [keep_cl, trunc, U0]
   intro i hi2 _
   by_cases hlt2 : i < nums.length
   ·obtain ⟨n, hn'⟩ : ∃ n, n = nums[i] := ⟨_, rfl⟩
    have hgn : nums[i]? = some n := by rw [List.getElem?_eq_getElem hlt2, hn']
    have hnk := hn n (hn' ▸ List.getElem_mem hlt2)
    obtain ⟨Y, hY⟩ : ∃ Y : Nat → List In4, ∀ j, Y j = ltrs (U i) ((lops n).take j) := ⟨_, fun _ => rfl⟩
    have Y0 : Y 0 = U i := by rw [hY]; rfl
    have Y6 : Y 6 = U (i + 1) := by
     rw [hY, hU, hU, List.take_of_length_le (show (lops n).length ≤ 6 from Nat.le_refl _), List.take_add_one, hgn]
     simp [ltrs_append]
    have Yl : ∀ j, (Y j).length ≤ 102 + 6 * 110 + 6 := fun j => by
     rw [hY]
     have h1 := ltrs_len ((lops n).take j) (U i)
     have h2 := Ul i
     have h3 : (lops n).length = 6 := rfl
     rw [List.length_take, h3] at h1
     omega
    simp (disch := omega) [ltT, hlt2, hgn, hn'.symm]
    refine W_up 6 (fun j => [(5, .vs (IL (Y j)) .no), (7, .vs (nats .u32 nums) (.own 1)), (8, .vs L6 .full), (9, .int .i64 i), (10, .int .i64 j)]) (fun _ => [none, some (.zone nums.length)]) (fun _ => True) ?_ ?_
    ·simp [keep_cl, trunc, Y0]
    intro j hj _
    by_cases hj6 : j < 6
    ·obtain ⟨o, ho⟩ : ∃ o, o = ops6.getD j 0 := ⟨_, rfl⟩
     have hs : Y (j + 1) = ltr (Y j) ⟨o, 0, 0, n⟩ := by
      rw [hY, hY, List.take_add_one, ← ltrs_snoc]
      congr 2
      have : (lops n)[j]? = some ⟨o, 0, 0, n⟩ := by
       rw [ho]
       rcases (by omega : j = 0 ∨ j = 1 ∨ j = 2 ∨ j = 3 ∨ j = 4 ∨ j = 5) with rfl | rfl | rfl | rfl | rfl | rfl <;> rfl
      rw [this]; rfl
     have hi6 := hidx j hj6
     rw [← ho] at hi6
     have hi6' := (List.getElem?_eq_some_iff.1 hi6).2
     have hp := with19_ok (G := G) (Y j) ⟨o, 0, 0, n⟩ (by have := Yl j; omega) hnk
     simp only [IV, In4.cs, FL] at hp
     simp (disch := omega) [ltT, hj6, l6, hi6, hi6', hlt2, hgn, hn'.symm, leTn]
     refine callP_of hp ?_
     simp (disch := omega) [hj6, hs, add1', keep_cl, trunc, -Int.natCast_add]
    ·obtain rfl : j = 6 := by omega
     simp (disch := omega) [hlt2, l6, add1', keep_cl, trunc, Y6, -Int.natCast_add]
   ·have hne : i = nums.length := by omega
    subst hne
    simp [UN]
end Go.Ev
/- A window's candidates: search.candidates, hurdleref19.Candidate. -/
namespace Go.Ev
open Go Go.RowKit
variable {G : Tbl}
set_option maxRecDepth 10000
set_option maxHeartbeats 4000000
set_option linter.unusedSimpArgs false
set_option linter.unusedVariables false
def pairsL (L : List In4) : List (List In4) := L.flatMap fun x => L.map fun y => [x, y]
def candL (w L : List In4) : List (List In4) :=
 if w.length = 0 then [] else [] :: (if w.length = 1 then [] else L.map (fun x => [x]) ++ (if w.length = 2 then [] else pairsL L))
theorem pairs_get {L : List In4} {i j : Nat} {x y : In4} : ∀ {K : List In4}, K[i]? = some x → L[j]? = some y → (K.flatMap fun x => L.map fun y => [x, y])[i * L.length + j]? = some [x, y]
 | [], h, _ => by simp at h
 | z :: K, h, h2 => by
  have hj := (List.getElem?_eq_some_iff.1 h2).1
  rw [List.flatMap_cons]
  cases i with
  | zero =>
   simp only [List.getElem?_cons_zero, Option.some.injEq] at h
   subst h
   rw [Nat.zero_mul, Nat.zero_add, List.getElem?_append_left (by simpa using hj), List.getElem?_map, h2]; rfl
  | succ i =>
   rw [List.getElem?_cons_succ] at h
   rw [List.getElem?_append_right (by rw [List.length_map, Nat.succ_mul]; omega), List.length_map, show (i + 1) * L.length + j - L.length = i * L.length + j by rw [Nat.succ_mul]; omega]
   exact pairs_get h h2
theorem pairs_len (L : List In4) : ∀ K : List In4, (K.flatMap fun x => L.map fun y => [x, y]).length = K.length * L.length
 | [] => by simp
 | z :: K => by rw [List.flatMap_cons, List.length_append, pairs_len L K, List.length_map, List.length_cons, Nat.succ_mul]; omega
section
variable {w L : List In4} {i j : Nat} {x y : In4}
theorem cand0 (hw : w.length ≠ 0) : (candL w L)[0]? = some [] := by simp [candL, hw]
theorem cand1 (hw : 2 ≤ w.length) (h : L[i]? = some x) : (candL w L)[i + 1]? = some [x] := by
 have hi := (List.getElem?_eq_some_iff.1 h).1
 rw [candL, if_neg (by omega), List.getElem?_cons_succ, if_neg (by omega), List.getElem?_append_left (by simpa using hi), List.getElem?_map, h]; rfl
theorem cand2 (hw : 3 ≤ w.length) (h : L[i]? = some x) (h2 : L[j]? = some y) : (candL w L)[L.length + 1 + (i * L.length + j)]? = some [x, y] := by
 rw [candL, if_neg (by omega), show L.length + 1 + (i * L.length + j) = (L.length + (i * L.length + j)) + 1 by omega, List.getElem?_cons_succ, if_neg (by omega), List.getElem?_append_right (by simp), List.length_map, if_neg (by omega), Nat.add_sub_cancel_left]
 exact pairs_get h h2
theorem cand_len : (candL w L).length = if w.length = 0 then 0 else if w.length = 1 then 1 else if w.length = 2 then L.length + 1 else L.length + 1 + L.length * L.length := by
 unfold candL
 split
 ·rfl
 split
 ·rfl
 split
 ·simp
 ·simp only [List.length_cons, List.length_append, List.length_map, pairsL, pairs_len]; omega
theorem cand_short {c : List In4} (h : c ∈ candL w L) : c.length < w.length := by
 unfold candL at h
 split at h
 ·cases h
 ·split at h
  ·simp at h; subst h; simp; omega
  ·split at h
   ·simp at h
    rcases h with rfl | ⟨a, _, rfl⟩
    ·simp; omega
    ·simp; omega
   ·simp [pairsL] at h
    rcases h with rfl | ⟨a, _, rfl⟩ | ⟨a, _, b, _, rfl⟩
    ·simp; omega
    ·simp; omega
    ·simp; omega
theorem cand_mem {c : List In4} (h : c ∈ candL w L) : ∀ x ∈ c, x ∈ L := by
 unfold candL at h
 split at h
 ·cases h
 ·split at h
  ·simp at h; subst h; simp
  ·split at h
   ·simp at h
    rcases h with rfl | ⟨a, ha, rfl⟩ <;> simp_all
   ·simp [pairsL] at h
    rcases h with rfl | ⟨a, ha, rfl⟩ | ⟨a, ha, b, hb, rfl⟩ <;> simp_all
end
def firstC (hit : Nat → List In4 → Bool) : List (List In4) → Nat → Option (Nat × List In4)
 | [], _ => none
 | c :: l, k => if hit k c = true then some (k, c) else firstC hit l (k + 1)
theorem firstC_none {hit : Nat → List In4 → Bool} : ∀ {l : List (List In4)} {k : Nat}, (∀ j < l.length, ∀ c, l[j]? = some c → hit (k + j) c = false) → firstC hit l k = none
 | [], _, _ => rfl
 | c :: l, k, h => by
  rw [firstC, if_neg (by rw [show k = k + 0 by rfl, h 0 (by simp) c rfl]; simp)]
  exact firstC_none fun j hj c hc => by rw [show k + 1 + j = k + (j + 1) by omega]; exact h (j + 1) (by simp; omega) c (by simpa using hc)
theorem firstC_at {hit : Nat → List In4 → Bool} {c : List In4} : ∀ {l : List (List In4)} {k j : Nat}, l[j]? = some c → hit (k + j) c = true → (∀ i < j, ∀ c, l[i]? = some c → hit (k + i) c = false) → firstC hit l k = some (k + j, c)
 | [], _, _, h, _, _ => by simp at h
 | d :: l, k, 0, h, hh, _ => by
  simp only [List.getElem?_cons_zero, Option.some.injEq] at h
  subst h
  rw [Nat.add_zero] at hh
  rw [firstC, if_pos hh]; rfl
 | d :: l, k, j + 1, h, hh, hn => by
  rw [firstC, if_neg (by rw [show k = k + 0 by rfl, hn 0 (by omega) d rfl]; simp)]
  rw [show k + (j + 1) = k + 1 + j by omega] at hh ⊢
  exact firstC_at (by simpa using h) hh fun i hi c hc => by rw [show k + 1 + i = k + (i + 1) by omega]; exact hn (i + 1) (by omega) c (by simpa using hc)
theorem CandR_ok [HasR19c G] (w L : List In4) (k : Int) (hL : L.length ≤ 1000) (hw : w.length ≤ 1000000) (hk : -9223372036854775808 ≤ k ∧ k ≤ 9223372036854775807) :
  FP G 335 [FL w, FL L, .int .i64 k] (.tup [FL (if 0 ≤ k then (candL w L)[k.toNat]?.getD [] else []), .bool (decide (0 ≤ k ∧ k < (candL w L).length))]) := by
 refine FP_of HasR19c.h_hurdleref19_Candidate (Nat.le_of_ble_eq_true rfl) ?_
 have hcl := cand_len (w := w) (L := L)
 have hpu : ∀ x : In4, (∀ y ∈ x.cs, y.pure = true) = True := fun x => eq_true (fun y hy => by simp only [In4.cs, List.mem_cons, List.not_mem_nil, or_false] at hy; rcases hy with rfl | rfl | rfl | rfl <;> rfl)
 have hxl : ∀ x : In4, x.cs.length = 4 := fun x => rfl
 have hxt : ∀ x : In4, x.cs.take 4 = x.cs := fun x => rfl
 have out : ∀ h : ¬ (0 ≤ k ∧ k < (candL w L).length), (if 0 ≤ k then (candL w L)[k.toNat]?.getD [] else []) = [] := fun h => by
  split
  ·rw [List.getElem?_eq_none (by omega)]; rfl
  ·rfl
 have inn : ∀ (n : Nat) (c : List In4), k = n → (candL w L)[n]? = some c → (if 0 ≤ k then (candL w L)[k.toNat]?.getD [] else []) = c ∧ decide (0 ≤ k ∧ k < (candL w L).length) = true := fun n c h hc => by
  have := (List.getElem?_eq_some_iff.1 hc).1
  subst h
  rw [if_pos (by omega), Int.toNat_natCast, hc]
  exact ⟨rfl, by simp; omega⟩
 by_cases k0 : k = 0 ∧ 0 < w.length
 ·obtain ⟨rfl, hw0⟩ := k0
  obtain ⟨e1, e2⟩ := inn 0 [] rfl (cand0 (by omega))
  rw [e1, e2]
  simp [FL, hw0]
 by_cases k1 : (1 ≤ k ∧ k ≤ L.length) ∧ 1 < w.length
 ·obtain ⟨⟨h1, h2⟩, h3⟩ := k1
  obtain ⟨i, rfl⟩ : ∃ i : Nat, k = ((i + 1 : Nat) : Int) := ⟨(k - 1).toNat, by omega⟩
  have hi : i < L.length := by omega
  have hgg := FL_get hi
  obtain ⟨x, hx⟩ : ∃ x, x = L[i] := ⟨_, rfl⟩
  rw [← hx] at hgg
  have hg : L[i]? = some x := by rw [List.getElem?_eq_getElem hi, hx]
  obtain ⟨e1, e2⟩ := inn (i + 1) [x] rfl (cand1 h3 hg)
  rw [e1, e2]
  have s1 : subI .i64 ((i + 1 : Nat) : Int) 1 = (i : Int) := by rw [subI64] <;> omega
  have z0 : (((i + 1 : Nat) : Int) == 0) = false := beqF (by omega)
  have q1 : ((1 : Int) ≤ ((i + 1 : Nat) : Int)) = True := eq_true (by omega)
  have q2 : (((i + 1 : Nat) : Int) ≤ (L.length : Int)) = True := eq_true (by omega)
  have q3 : ((1 : Int) < (w.length : Int)) = True := eq_true (by omega)
  simp (disch := omega) [FL, s1, z0, q1, q2, q3, hgg, hpu, hxl, hxt, ltT, IL, hx.symm, -Int.natCast_add]
 have nn : L.length * L.length ≤ 1000000 := Nat.le_trans (Nat.mul_le_mul hL hL) (by decide)
 have mm : mulI .i64 (L.length : Int) (L.length : Int) = ((L.length * L.length : Nat) : Int) := mulN (by omega)
 by_cases k2 : ((L.length : Int) < k ∧ k < L.length + 1 + (L.length * L.length : Nat)) ∧ 2 < w.length
 ·obtain ⟨⟨h1, h2⟩, h3⟩ := k2
  obtain ⟨p, rfl⟩ : ∃ p : Nat, k = ((L.length + 1 + p : Nat) : Int) := ⟨(k - L.length - 1).toNat, by omega⟩
  have hp : p < L.length * L.length := by omega
  have hL0 : 0 < L.length := by
   rcases Nat.eq_zero_or_pos L.length with h | h
   ·rw [h] at hp; simp at hp
   ·exact h
  have ha : p / L.length < L.length := Nat.div_lt_of_lt_mul hp
  have hb : p % L.length < L.length := Nat.mod_lt _ hL0
  obtain ⟨x, hx⟩ : ∃ x, x = L[p / L.length] := ⟨_, rfl⟩
  obtain ⟨y, hy⟩ : ∃ y, y = L[p % L.length] := ⟨_, rfl⟩
  have gx := FL_get ha
  have gy := FL_get hb
  rw [← hx] at gx
  rw [← hy] at gy
  have hgx : L[p / L.length]? = some x := by rw [List.getElem?_eq_getElem ha, hx]
  have hgy : L[p % L.length]? = some y := by rw [List.getElem?_eq_getElem hb, hy]
  have hc := cand2 (w := w) (by omega) hgx hgy
  have hdm : p / L.length * L.length + p % L.length = p := by rw [Nat.mul_comm]; exact Nat.div_add_mod _ _
  rw [hdm] at hc
  obtain ⟨e1, e2⟩ := inn (L.length + 1 + p) [x, y] rfl hc
  rw [e1, e2]
  have s1 : subI .i64 ((L.length + 1 + p : Nat) : Int) 1 = ((L.length + p : Nat) : Int) := by rw [subI64] <;> omega
  have s2 : subI .i64 ((L.length + p : Nat) : Int) (L.length : Int) = (p : Int) := by rw [subI64] <;> omega
  have z0 : (((L.length + 1 + p : Nat) : Int) == 0) = false := beqF (by omega)
  have q1 : ((1 : Int) ≤ ((L.length + 1 + p : Nat) : Int)) = True := eq_true (by omega)
  have q2 : (((L.length + 1 + p : Nat) : Int) ≤ (L.length : Int)) = False := eq_false (by omega)
  have q3 : ((2 : Int) < (w.length : Int)) = True := eq_true (by omega)
  have q4 : ((L.length : Int) < ((L.length + 1 + p : Nat) : Int)) = True := eq_true (by omega)
  have q5 : ((p : Int) < ((L.length * L.length : Nat) : Int)) = True := eq_true (by omega)
  have qd : quoI .i64 (p : Int) (L.length : Int) = ((p / L.length : Nat) : Int) := quo64 (by omega)
  have qm : remI (p : Int) (L.length : Int) = ((p % L.length : Nat) : Int) := rem64
  have hLi : ((L.length : Int) = 0) = False := eq_false (by omega)
  have hL0' : (L.length = 0) = False := eq_false (by omega)
  simp (disch := omega) [FL, s1, s2, z0, q1, q2, q3, q4, q5, qd, qm, mm, hLi, hL0', gx, gy, hpu, hxl, hxt, ltT, IL, hx.symm, hy.symm, -Int.natCast_add, -Int.natCast_mul, -Int.natCast_ediv, -Int.natCast_emod]
 have hno : ¬ (0 ≤ k ∧ k < (candL w L).length) := by
  rw [hcl]
  rintro ⟨h1, h2⟩
  split at h2
  ·omega
  ·split at h2
   ·omega
   ·split at h2 <;> omega
 rw [out hno, decide_eq_false hno]
 have wi : ∀ n : Nat, ((n : Int) < (w.length : Int)) = (n < w.length) := fun n => by simp
 by_cases c0 : k = 0
 ·have hw0 : ¬ 0 < w.length := fun h => k0 ⟨c0, h⟩
  have hLn : ((L.length : Int) < 0) = False := eq_false (by omega)
  subst c0
  simp [FL, hw0, hLn]
 have z0 : (k == 0) = false := beqF c0
 by_cases c1 : 1 ≤ k ∧ k ≤ L.length
 ·have hw1 : ((1 : Int) < (w.length : Int)) = False := eq_false (fun h => k1 ⟨c1, by omega⟩)
  have q1 : ((1 : Int) ≤ k) = True := eq_true c1.1
  have q2 : (k ≤ (L.length : Int)) = True := eq_true c1.2
  have q4 : ((L.length : Int) < k) = False := eq_false (by omega)
  simp [FL, z0, c0, q1, q2, q4, hw1]
 by_cases c2 : (L.length : Int) < k
 ·have q1 : ((1 : Int) ≤ k) = True := eq_true (by omega)
  have q2 : (k ≤ (L.length : Int)) = False := eq_false (by omega)
  have q4 : ((L.length : Int) < k) = True := eq_true c2
  have s1 : subI .i64 k 1 = k - 1 := by rw [subI64] <;> omega
  have s2 : subI .i64 (k - 1) (L.length : Int) = k - 1 - L.length := by rw [subI64] <;> omega
  by_cases c3 : k < L.length + 1 + (L.length * L.length : Nat)
  ·have hw2 : ((2 : Int) < (w.length : Int)) = False := eq_false (fun h => k2 ⟨⟨c2, c3⟩, by omega⟩)
   have q5 : (k - 1 - (L.length : Int) < ((L.length * L.length : Nat) : Int)) = True := eq_true (by omega)
   simp [FL, z0, c0, q1, q2, q4, s1, s2, mm, q5, hw2, -Int.natCast_mul]
  ·have q5 : (k - 1 - (L.length : Int) < ((L.length * L.length : Nat) : Int)) = False := eq_false (by omega)
   simp [FL, z0, c0, q1, q2, q4, s1, s2, mm, q5, -Int.natCast_mul]
 ·have q1 : ((1 : Int) ≤ k) = False := eq_false (by omega)
  have q4 : ((L.length : Int) < k) = False := eq_false c2
  simp [FL, z0, c0, q1, q4]
end Go.Ev
/- search.candidates, walked. -/
namespace Go.Ev
open Go Go.RowKit
variable {G : Tbl}
set_option maxRecDepth 10000
set_option maxHeartbeats 4000000
set_option linter.unusedSimpArgs false
set_option linter.unusedVariables false
theorem cands1_ok [HasSrcC G] {H : Heap} (hsh : HShut H) {id i1 i2 : Nat} {w L : List In4} {tk : Tk} (hwl : w.length ≤ 1000) (hL : L.length ≤ 1000)
  (h1 : H[i1]? = some (some (.cells [.vs (IL w) .no]))) (h2 : H[i2]? = some (some (.cells [.vs (IL L) .no]))) (hid : id < H.length) {hit : Nat → List In4 → Bool} {H' : Nat → List In4 → Heap}
  (hyes : ∀ k c, (candL w L)[k]? = some c → hit k c = false → ∀ X : Heap, (∀ n, X.map (Option.map (Blk.cl n)) = X) → YS G id [.int .i64 k, .vs (IL c) .full] (H ++ X) true (H ++ X))
  (hno : ∀ k c, (candL w L)[k]? = some c → hit k c = true → ∀ X : Heap, (∀ n, X.map (Option.map (Blk.cl n)) = X) → YS G id [.int .i64 k, .vs (IL c) .full] (H ++ X) false (H' k c ++ X))
  (hl' : ∀ k c, (candL w L)[k]? = some c → hit k c = true → trunc H.length (H' k c) = H' k c ∧ (H' k c).length = H.length) :
  SF G 328 [.yld id, .ptr i1 0, .ptr i2 0] H (.tup []) (match firstC hit (candL w L) 0 with | some p => H' p.1 p.2 | none => H) := by
 refine SF_of HasSrcC.h_search_candidates_1 (Nat.le_of_ble_eq_true rfl) ?_
 have lt1 : i1 < H.length := (List.getElem?_eq_some_iff.1 h1).1
 have lt2 : i2 < H.length := (List.getElem?_eq_some_iff.1 h2).1
 have hself := hsh.self
 have hback := hsh.back
 have g1 := (List.getElem?_eq_some_iff.1 h1).2
 have g2 := (List.getElem?_eq_some_iff.1 h2).2
 have e1 : ∀ X : Heap, (H ++ X)[i1]? = some (some (.cells [.vs (IL w) .no])) := fun X => by rw [List.getElem?_append_left lt1]; exact h1
 have e2 : ∀ X : Heap, (H ++ X)[i2]? = some (some (.cells [.vs (IL L) .no])) := fun X => by rw [List.getElem?_append_left lt2]; exact h2
 have e1' : ∀ (X : Heap) h, (H ++ X)[i1]'h = some (.cells [.vs (IL w) .no]) := fun X h => (List.getElem?_eq_some_iff.1 (e1 X)).2
 have e2' : ∀ (X : Heap) h, (H ++ X)[i2]'h = some (.cells [.vs (IL L) .no]) := fun X h => (List.getElem?_eq_some_iff.1 (e2 X)).2
 have k0 : ∀ (r : Heap) x, (H ++ r).set H.length x = H ++ r.set 0 x := fun r x => setn0 rfl x
 have kk : ∀ r : Heap, (H ++ r)[H.length]? = r[0]? := fun r => apn0 rfl
 have k01 : ∀ (r : Heap) x, (H ++ r).set (H.length + 1) x = H ++ r.set 1 x := fun r x => setnk rfl 1 x
 have kk1 : ∀ r : Heap, (H ++ r)[H.length + 1]? = r[1]? := fun r => apnk rfl 1
 have hcl := cand_len (w := w) (L := L)
 have hpu : ∀ x : In4, (∀ y ∈ x.cs, y.pure = true) = True := fun x => eq_true (fun y hy => by simp only [In4.cs, List.mem_cons, List.not_mem_nil, or_false] at hy; rcases hy with rfl | rfl | rfl | rfl <;> rfl)
 have hxl : ∀ x : In4, x.cs.length = 4 := fun x => rfl
 have hxt : ∀ x : In4, x.cs.take 4 = x.cs := fun x => rfl
 have nx : ∀ x : In4, x.cs.map V.nf1 = x.cs := fun x => rfl
 have kx : ∀ (x : In4) n, clL n x.cs = x.cs := fun x n => by simp [In4.cs, clL, V.cl]
 obtain ⟨C, hC⟩ : ∃ C, C = candL w L := ⟨_, rfl⟩
 rw [← hC] at hcl ⊢
 -- what follows when nothing is hit below a number
 have none_of : ∀ n, C.length ≤ n → (∀ j < n, ∀ c, C[j]? = some c → hit j c = false) → firstC hit C 0 = none := fun n hn hP => firstC_none fun j hj c hc => by rw [Nat.zero_add]; exact hP j (by omega) c hc
 have some_of : ∀ k c, C[k]? = some c → hit k c = true → (∀ j < k, ∀ c, C[j]? = some c → hit j c = false) → firstC hit C 0 = some (k, c) := fun k c hc hh hP => by
  have := firstC_at (hit := hit) (k := 0) hc (by rw [Nat.zero_add]; exact hh) fun i hi c hc => by rw [Nat.zero_add]; exact hP i hi c hc
  rwa [Nat.zero_add] at this
 rw [← hC] at hyes hno hl'
 by_cases w0 : w.length = 0
 ·have hn : firstC hit C 0 = none := none_of 0 (by rw [hcl, if_pos w0]; exact Nat.le_refl _) fun j hj => by omega
  have w0i : ((w.length : Int) == 0) = true := by simp [w0]
  simp [h1, g1, w0, w0i, hn, hself]
 have w0i : ((w.length : Int) == 0) = false := beqF (by omega)
 have c0 : C[0]? = some [] := by rw [hC]; exact cand0 w0
 simp [h1, g1, w0, w0i]
 cases hh0 : hit 0 [] with
 | true =>
  have := hno 0 [] c0 hh0 [] (fun n => rfl)
  simp only [List.append_nil, IL, List.map_nil] at this
  refine callY_of this ?_
  have hf := some_of 0 [] c0 hh0 fun j hj => by omega
  obtain ⟨l1, l2⟩ := hl' 0 [] c0 hh0
  simp [hf, l1]
 | false =>
 have := hyes 0 [] c0 hh0 [] (fun n => rfl)
 simp only [List.append_nil, IL, List.map_nil] at this
 refine callY_of this ?_
 by_cases w1 : w.length = 1
 ·have hn : firstC hit C 0 = none := none_of 1 (by rw [hcl, if_neg w0, if_pos w1]; exact Nat.le_refl _) fun j hj c hc => by
   obtain rfl : j = 0 := by omega
   rw [c0] at hc; cases hc; exact hh0
  simp [h1, g1, w1, hn, hself]
 have w1i : ((w.length : Int) == 1) = false := beqF (by omega)
 have hw2 : 2 ≤ w.length := by omega
 simp [h1, g1, h2, g2, w1, w1i]
 have P1 : ∀ j < 1, ∀ c, C[j]? = some c → hit j c = false := fun j hj c hc => by
  obtain rfl : j = 0 := by omega
  rw [c0] at hc; cases hc; exact hh0
 have hmap : ∀ X : Heap, (∀ n, X.map (Option.map (Blk.cl n)) = X) → trunc H.length (H ++ X) = H := fun X _ => hback X
 obtain ⟨N1, hN1⟩ : ∃ N1 : Nat → Nat, ∀ i, N1 i = i + 1 := ⟨_, fun _ => rfl⟩
 have hN10 : N1 0 = 1 := hN1 0
 refine W_up L.length (fun i => [(0, .yld id), (1, .ptr i1 0), (2, .ptr i2 0), (4, .int .i64 (N1 i : Nat)), (24, .vs (IL L) .no), (25, .int .i64 L.length), (26, .int .i64 i)]) (fun _ => H) (fun i => ∀ j < i + 1, ∀ c, C[j]? = some c → hit j c = false) ?_ ?_
 ·simp [keep_cl, hself, hid, lt1, lt2, hN10]
  simpa using P1
 intro i hi hP
 by_cases hlt : i < L.length
 ·obtain ⟨x, hx⟩ : ∃ x, x = L[i] := ⟨_, rfl⟩
  have hg : L[i]? = some x := by rw [List.getElem?_eq_getElem hlt, hx]
  have hgg := FL_get hlt
  rw [← hx] at hgg
  have hc : C[i + 1]? = some [x] := by rw [hC]; exact cand1 hw2 hg
  have hX : ∀ n, ([some (Blk.cells x.cs)] : Heap).map (Option.map (Blk.cl n)) = [some (Blk.cells x.cs)] := fun n => by simp [Blk.cl, kx]
  have hX2 : ∀ n, ([some (Blk.cells x.cs)] : Heap).map (Option.map (Blk.cl n)) = [some (Blk.cells x.cs)] := hX
  simp (disch := omega) [ltT, hlt, hgg, hx.symm, hxl, hxt, nx, kx, kk, k0, hpu]
  have hilx : IL [x] = [x.cs] := rfl
  cases hh : hit (i + 1) [x] with
  | true =>
   have hy := hno (i + 1) [x] hc hh _ hX
   rw [hilx, ← hN1 i] at hy
   refine callY_of hy ?_
   have hf := some_of (i + 1) [x] hc hh hP
   obtain ⟨l1, l2⟩ := hl' (i + 1) [x] hc hh
   rw [← hN1 i] at l1 l2 hf
   simp [hf, trunc_app l1 l2]
  | false =>
   have hy := hyes (i + 1) [x] hc hh _ hX
   rw [hilx, ← hN1 i] at hy
   refine callY_of hy ?_
   have hP2 : ∀ j < i + 1 + 1, ∀ c, C[j]? = some c → hit j c = false := fun j hj c hc' => by
    rcases Nat.lt_succ_iff_lt_or_eq.1 hj with h | rfl
    ·exact hP j h c hc'
    ·rw [hc] at hc'; cases hc'; exact hh
   have a1 : addI .i64 (N1 i : Int) 1 = (N1 (i + 1) : Int) := by rw [hN1, hN1]; exact add1' (by omega)
   simp (disch := omega) [hlt, add1', a1, keep_cl, hself, hback, hid, lt1, lt2, -Int.natCast_add]
   exact hP2
 ·have hne : i = L.length := by omega
  subst hne
  simp
  by_cases w2 : w.length = 2
  ·have hn : firstC hit C 0 = none := none_of (L.length + 1) (by rw [hcl, if_neg w0, if_neg w1, if_pos w2]; exact Nat.le_refl _) hP
   simp [h1, g1, w2, hn, hself]
  have w2i : ((w.length : Int) == 2) = false := beqF (by omega)
  have hw3 : 3 ≤ w.length := by omega
  have nn : L.length * L.length ≤ 1000000 := Nat.le_trans (Nat.mul_le_mul hL hL) (by decide)
  simp [h1, g1, h2, g2, w2, w2i]
  obtain ⟨N2, hN2⟩ : ∃ N2 : Nat → Nat, ∀ i, N2 i = L.length + 1 + i * L.length := ⟨_, fun _ => rfl⟩
  have hN20 : N2 0 = L.length + 1 := by rw [hN2]; omega
  have hN1L : N1 L.length = L.length + 1 := hN1 _
  refine W_up L.length (fun i => [(0, .yld id), (2, .ptr i2 0), (4, .int .i64 (N2 i : Nat)), (42, .vs (IL L) .no), (43, .int .i64 L.length), (44, .int .i64 i)]) (fun _ => H) (fun i => ∀ j < N2 i, ∀ c, C[j]? = some c → hit j c = false) ?_ ?_
  ·simp [keep_cl, hself, hid, lt1, lt2, hN20, hN1L]
   exact hP
  intro i hi hQ
  have hil : i * L.length ≤ L.length * L.length := Nat.mul_le_mul_right _ hi
  by_cases hlt : i < L.length
  ·obtain ⟨x, hx⟩ : ∃ x, x = L[i] := ⟨_, rfl⟩
   have hg : L[i]? = some x := by rw [List.getElem?_eq_getElem hlt, hx]
   have hgg := FL_get hlt
   rw [← hx] at hgg
   have hX : ∀ n, ([some (Blk.cells x.cs)] : Heap).map (Option.map (Blk.cl n)) = [some (Blk.cells x.cs)] := fun n => by simp [Blk.cl, kx]
   have hsx : trunc (H.length + 1) (H ++ [some (.cells x.cs)]) = H ++ [some (.cells x.cs)] := by
    have := (hsh.app hX).self
    simpa using this
   have hbx : ∀ r : Heap, trunc (H.length + 1) (H ++ some (.cells x.cs) :: r) = H ++ [some (.cells x.cs)] := fun r => by
    have := (hsh.app hX).back r
    simpa using this
   have hsucc : (i + 1) * L.length = i * L.length + L.length := Nat.succ_mul _ _
   have g2x : ∀ r : Heap, (H ++ r)[i2]? = some (some (.cells [.vs (IL L) .no])) := e2
   simp (disch := omega) [ltT, hlt, hgg, hx.symm, hxl, hxt, nx, kx, kk, k0, hpu, e2, e2']
   obtain ⟨N3, hN3⟩ : ∃ N3 : Nat → Nat, ∀ j, N3 j = L.length + 1 + (i * L.length + j) := ⟨_, fun _ => rfl⟩
   have hN30 : N3 0 = N2 i := by rw [hN3, hN2]; omega
   have hN3L : N3 L.length = N2 (i + 1) := by rw [hN3, hN2]; omega
   have hN3s : ∀ j, N3 (j + 1) = N3 j + 1 := fun j => by rw [hN3, hN3]; omega
   have hN3l : ∀ j, j ≤ L.length → N3 j ≤ 2000000 := fun j hj => by rw [hN3]; omega
   refine W_up L.length (fun j => [(0, .yld id), (2, .ptr i2 0), (4, .int .i64 (N3 j : Nat)), (8, .ptr H.length 0), (42, .vs (IL L) .no), (43, .int .i64 L.length), (44, .int .i64 i), (48, .vs (IL L) .no), (49, .int .i64 L.length), (50, .int .i64 j)]) (fun _ => H ++ [some (.cells x.cs)]) (fun j => ∀ m < N3 j, ∀ c, C[m]? = some c → hit m c = false) ?_ ?_
   ·simp [keep_cl, hsx, show id < H.length + 1 by omega, show i2 < H.length + 1 by omega, hN30]
    exact hQ
   intro j hj hR
   by_cases hjt : j < L.length
   ·obtain ⟨y, hy⟩ : ∃ y, y = L[j] := ⟨_, rfl⟩
    have hg2 : L[j]? = some y := by rw [List.getElem?_eq_getElem hjt, hy]
    have hgg2 := FL_get hjt
    rw [← hy] at hgg2
    have hc : C[L.length + 1 + (i * L.length + j)]? = some [x, y] := by rw [hC]; exact cand2 hw3 hg hg2
    have hXY : ∀ n, ([some (Blk.cells x.cs), some (Blk.cells y.cs)] : Heap).map (Option.map (Blk.cl n)) = [some (Blk.cells x.cs), some (Blk.cells y.cs)] := fun n => by simp [Blk.cl, kx]
    have hilx : IL [x, y] = [x.cs, y.cs] := rfl
    rw [← hN3 j] at hc
    have hql := hN3l j (by omega)
    have hqs := hN3s j
    obtain ⟨q, hq⟩ : ∃ q, q = N3 j := ⟨_, rfl⟩
    rw [← hq] at hc hql hqs
    have hR' : ∀ m < q, ∀ c, C[m]? = some c → hit m c = false := by rw [hq]; exact hR
    have a3 : addI .i64 (q : Int) 1 = ((q + 1 : Nat) : Int) := add1' (by omega)
    simp only [← hq]
    simp (disch := omega) [ltT, hjt, hgg2, hy.symm, hxl, hxt, nx, kx, kk, k0, kk1, k01, hpu]
    cases hh : hit q [x, y] with
    | true =>
     have hyy := hno q [x, y] hc hh _ hXY
     rw [hilx] at hyy
     refine callY_of hyy ?_
     have hf := some_of q [x, y] hc hh hR'
     obtain ⟨l1, l2⟩ := hl' q [x, y] hc hh
     simp [hf, trunc_app l1 l2]
    | false =>
     have hyy := hyes q [x, y] hc hh _ hXY
     rw [hilx] at hyy
     refine callY_of hyy ?_
     have hP2 : ∀ m < q + 1, ∀ c, C[m]? = some c → hit m c = false := fun m hm c hc' => by
      rcases Nat.lt_succ_iff_lt_or_eq.1 hm with h | rfl
      ·exact hR' m h c hc'
      ·rw [hc] at hc'; cases hc'; exact hh
     simp (disch := omega) [hjt, add1', a3, hqs, keep_cl, hsx, hbx, show id < H.length + 1 by omega, show i2 < H.length + 1 by omega, -Int.natCast_add]
     exact hP2
   ·obtain rfl : j = L.length := by omega
    rw [hN3L] at hR
    simp (disch := omega) [hN3L, hlt, add1', keep_cl, hself, hback, hid, lt1, lt2, -Int.natCast_add, -Int.natCast_mul]
    exact hR
  ·have hne : i = L.length := by omega
   subst hne
   have hn : firstC hit C 0 = none := none_of (N2 L.length) (by rw [hN2, hcl, if_neg w0, if_neg w1, if_neg w2]; exact Nat.le_refl _) hQ
   simp [hn, hself]
end Go.Ev
/- search.Find and search.Candidate. -/
namespace Go.Ev
open Go Go.RowKit
variable {G : Tbl}
set_option maxRecDepth 10000
set_option maxHeartbeats 4000000
set_option linter.unusedSimpArgs false
set_option linter.unusedVariables false
def findAs : SCode := .seq (.region 0 [⟨some 11, .mv (.t 26), none⟩]) (.region 0 [⟨some 12, .mv (.t 27), none⟩])
def findBo : SCode := .block 1 (.seq (.seq (.region 0 [⟨some 28, .mv (.t 11), none⟩, ⟨some 29, .load 1 false false (.t 5), none⟩, ⟨some 30, .bin .geq (.t 28) (.t 29), none⟩]) (.cond (.t 30) (.exit 0) .skip)) (.seq (.keep [3, 4, 6, 7, 8, 12])
 (.seq (.region 1 [⟨some 32, .load 1 false false (.t 3), none⟩, ⟨some 33, .mv (.t 12), none⟩, ⟨some 34, .load 1 false false (.t 4), none⟩, ⟨some 35, .pcall 312 [.t 32, .t 33, .t 34], none⟩, ⟨some 31, .mv (.t 35), none⟩, ⟨some 36, .ext 0 (.t 31), none⟩, ⟨some 37, .ext 1 (.t 31), none⟩,
  ⟨some 13, .alloc 0 (ansC 0 none), none⟩, ⟨none, .store 28 (.t 13) (.t 36), none⟩, ⟨some 14, .mv (.t 37), none⟩]) (.seq (.keep [6, 7, 8, 12, 13]) (.seq (.region 0 [⟨some 38, .faddr 0 (.t 13), none⟩, ⟨some 39, .load 1 false false (.t 38), none⟩, ⟨some 40, .bin .eql (.t 39) (.c (.int .i64 0)), none⟩])
   (.cond (.t 40) (.seq (.region 0 [⟨some 41, .mv (.t 12), none⟩, ⟨none, .store 1 (.t 6) (.t 41), none⟩, ⟨none, .store 1 (.t 7) (.c (.bool true)), none⟩, ⟨none, .store 1 (.t 8) (.c (.int .i64 0)), none⟩]) .ret) .skip))))))
def findE : List (Nat × V) := [(3, .ptr 0 0), (4, .ptr 1 0), (5, .ptr 2 0), (6, .ptr 3 0), (7, .ptr 4 0), (8, .ptr 5 0)]
def FH (w L : List In4) (live : Nat) (tries : Int) (o : List In4) (b : Bool) (st : LSt) : Heap :=
 [some (.cells [.vs (IL w) .no]), some (.cells [.int .u32 live]), some (.cells [.int .i64 tries]), some (.cells [.vs (IL o) .full]), some (.cells [.bool b]), some (.cells [.int .i64 0]), some (.cells [.vs (IL w) .no]), some (.cells [.vs (IL L) .no]), some (.loop findE [26, 27] findAs findBo st)]
section
variable {w L o : List In4} {live : Nat} {tries : Int} {b : Bool} {st : LSt}
theorem FH_shut : HShut (FH w L live tries o b st) := by
 intro n hn
 simp only [FH, List.length_cons, List.length_nil] at hn
 simp [FH, findE, Blk.cl, clL, V.cl, Tk.cl, show 0 < n by omega, show 1 < n by omega, show 2 < n by omega, show 3 < n by omega, show 4 < n by omega, show 5 < n by omega]
noncomputable def hitF (w : List In4) (live : Nat) (tries : Int) (k : Nat) (c : List In4) : Bool := decide (tries ≤ k) || decide ((decR w c live).1 = 0)
theorem find1_ok [HasWd G] [HasNeg G] [HasIns G] [HasCheck G] [HasData G] [HasWith G] [HasStep G] [HasWRight G] [HasWinRun G] [HasWinAsg G] [HasWinState G] [HasWinOf G] [HasAffApart G] [HasAffine G] [hBA : HasBitsA G] [HasSymNew G] [HasSym G] [HasSymApart G] [HasDecDf G] [HasDec G]
  (k : Nat) (c : List In4) (hw : w.length ≤ maxLen) (hkw : ∀ x ∈ w, x.k < 4294967296) (hlv : live < 4294967296) (hc : c.length ≤ maxLen) (hkc : ∀ x ∈ c, x.k < 4294967296) (X : Heap) (hX : ∀ n, X.map (Option.map (Blk.cl n)) = X) :
  YS G 8 [.int .i64 k, .vs (IL c) .full] (FH w L live tries [] false .ready ++ X) (!hitF w live tries k c)
   (if tries ≤ k then FH w L live tries [] false (.done (.exit 0)) ++ X else if (decR w c live).1 = 0 then FH w L live tries c true (.done .ret) ++ X else FH w L live tries [] false .ready ++ X) := by
 have nF : ∀ o b st, (FH w L live tries o b st).length = 9 := fun o b st => rfl
 obtain ⟨b', H', hy, rfl, rfl⟩ := YS_of (R := fun b' H' => b' = (!hitF w live tries k c) ∧ H' = (if tries ≤ k then FH w L live tries [] false (.done (.exit 0)) ++ X else if (decR w c live).1 = 0 then FH w L live tries c true (.done .ret) ++ X else FH w L live tries [] false .ready ++ X))
  (G := G) (H := FH w L live tries [] false .ready ++ X) (id := 8) (args := [.int .i64 k, .vs (IL c) .full]) (e0 := findE) (ps := [26, 27]) (as := findAs) (bo := findBo) rfl rfl (by
  have s8 : ∀ o b st st' (r : Heap), (FH w L live tries o b st ++ r).set 8 (some (.loop findE [26, 27] findAs findBo st')) = FH w L live tries o b st' ++ r := fun o b st st' r => rfl
  have g8 : ∀ o b st (r : Heap), (FH w L live tries o b st ++ r)[8]? = some (some (.loop findE [26, 27] findAs findBo st)) := fun o b st r => rfl
  have g0 : ∀ o b st (r : Heap), (FH w L live tries o b st ++ r)[0]? = some (some (.cells [.vs (IL w) .no])) := fun o b st r => rfl
  have g1 : ∀ o b st (r : Heap), (FH w L live tries o b st ++ r)[1]? = some (some (.cells [.int .u32 live])) := fun o b st r => rfl
  have g2 : ∀ o b st (r : Heap), (FH w L live tries o b st ++ r)[2]? = some (some (.cells [.int .i64 tries])) := fun o b st r => rfl
  have g3 : ∀ o b st (r : Heap), (FH w L live tries o b st ++ r)[3]? = some (some (.cells [.vs (IL o) .full])) := fun o b st r => rfl
  have g4 : ∀ o b st (r : Heap), (FH w L live tries o b st ++ r)[4]? = some (some (.cells [.bool b])) := fun o b st r => rfl
  have g5 : ∀ o b st (r : Heap), (FH w L live tries o b st ++ r)[5]? = some (some (.cells [.int .i64 0])) := fun o b st r => rfl
  have s3 : ∀ o o' b st (r : Heap), (FH w L live tries o b st ++ r).set 3 (some (.cells [.vs (IL o') .full])) = FH w L live tries o' b st ++ r := fun o o' b st r => rfl
  have s4 : ∀ o b b' st (r : Heap), (FH w L live tries o b st ++ r).set 4 (some (.cells [.bool b'])) = FH w L live tries o b' st ++ r := fun o b b' st r => rfl
  have s5 : ∀ o b st (r : Heap), (FH w L live tries o b st ++ r).set 5 (some (.cells [.int .i64 0])) = FH w L live tries o b st ++ r := fun o b st r => rfl
  have fb : ∀ o b st (r : Heap), trunc (9 + X.length) (FH w L live tries o b st ++ (X ++ r)) = FH w L live tries o b st ++ X := fun o b st r => by
   have := ((FH_shut (w := w) (L := L) (live := live) (tries := tries) (o := o) (b := b) (st := st)).app hX).back r
   rw [List.append_assoc, List.length_append, nF] at this
   exact this
  have fb0 : ∀ o b st, trunc (9 + X.length) (FH w L live tries o b st ++ X) = FH w L live tries o b st ++ X := fun o b st => by
   have := fb o b st []
   simpa using this
  have kk : ∀ o b st (r : Heap), (FH w L live tries o b st ++ (X ++ r))[9 + X.length]? = r[0]? := fun o b st r => by
   rw [← List.append_assoc]; exact apn0 (by simp [nF])
  have k0 : ∀ o b st (r : Heap) y, (FH w L live tries o b st ++ (X ++ r)).set (9 + X.length) y = FH w L live tries o b st ++ (X ++ r.set 0 y) := fun o b st r y => by
   rw [← List.append_assoc, setn0 (by simp [nF]), List.append_assoc]
  have hd := Decide_ok (G := G) w c live hw hc hkw hkc hlv
  simp only [FL] at hd
  obtain ⟨A, hA⟩ : ∃ A, A = ansC 0 none := ⟨_, rfl⟩
  have lA : A.length = 28 := by rw [hA]; rfl
  obtain ⟨cc, B, hcc, hB, kB, lB, B1⟩ : ∃ (cc : Int) (B : List V), (decR w c live).1 = cc ∧ B = ansC (decR w c live).1 (decR w c live).2 ∧ (∀ n, clL n B = B) ∧ B.length = 28 ∧ B.take 1 = [.int .i64 cc] :=
   ⟨_, _, rfl, rfl, fun n => ansC_cl _ _ n, decR_len w c live, ansC_hd _ _⟩
  have tB : B.take 28 = B := List.take_of_length_le (by omega)
  have dA : A.drop 28 = [] := List.drop_eq_nil_of_le (by omega)
  rw [← hB] at hd
  simp only [hitF, hcc]
  simp [findAs, findE, putP]
  refine ⟨_, _, _, _, g8 _ _ _ _, ?_⟩
  rw [s8]
  simp [findBo, nF, g2]
  have s3' : ∀ o o' b st, (FH w L live tries o b st).set 3 (some (.cells [.vs (IL o') .full])) = FH w L live tries o' b st := fun o o' b st => rfl
  have s4' : ∀ o b b' st, (FH w L live tries o b st).set 4 (some (.cells [.bool b'])) = FH w L live tries o b' st := fun o b b' st => rfl
  have s5' : ∀ o b st, (FH w L live tries o b st).set 5 (some (.cells [.int .i64 0])) = FH w L live tries o b st := fun o b st => rfl
  by_cases ht : tries ≤ (k : Int)
  ·simp [ht, g8]
   exact ⟨_, _, _, _, ⟨rfl, rfl, rfl, rfl⟩, fb0 _ _ _⟩
  simp [ht, keep_cl, nF, g0, g1, g3, g4, g5]
  refine callP_of hd ?_
  simp [keep_cl, nF, g0, g1, g3, g4, g5, ← hA, lA, lB, tB, dA, kB, kk, k0, B1]
  by_cases h0 : cc = 0
  ·simp [h0, keep_cl, nF, g0, g1, g3, g4, g5, s3, s4, s5, s3', s4', s5', g8, kB]
   exact ⟨_, _, _, _, ⟨rfl, rfl, rfl, rfl⟩, fb _ _ _ _⟩
  ·simp [h0, beqF h0, keep_cl, nF, g8]
   exact ⟨_, _, _, _, ⟨rfl, rfl, rfl, rfl⟩, fb _ _ _ _⟩)
 exact hy
end
theorem constI_lt {L : List Nd} (h : Inv L) {x : Int} {c : Nat} (e : constI L x = some c) : c < 4294967296 := by
 unfold constI at e
 split at e
 ·cases hg : L[x.toNat]? with
  | none => rw [hg] at e; cases e
  | some a =>
   rw [hg] at e
   simp only [Option.bind_some, constA] at e
   split at e
   ·exact fConst_lt e (h.wf a (List.mem_of_getElem? hg)).1
   ·cases e
 ·cases e
theorem nums_lt {w : List In4} (hk : ∀ x ∈ w, x.k < 4294967296) (hw : winB w = true) : ∀ n ∈ ownN w ++ toldN w, n < 4294967296 := by
 have hi : Inv (winV [] w).L := (winV_ok Inv.nil w hk).ext.inv
 intro n hn
 rw [List.mem_append] at hn
 rcases hn with hn | hn
 ·simp only [ownN, List.mem_map, List.mem_filter] at hn
  obtain ⟨x, ⟨hx, _⟩, rfl⟩ := hn
  exact hk x hx
 ·simp only [toldN, List.mem_append, Option.mem_toList, Option.mem_def] at hn
  have hv : ∀ v, valI v (winV [] w).L ((winV [] w).p.getD 0 0) = some n → n < 4294967296 := fun v h => by
   have h0 : 0 ≤ (winV [] w).p.getD 0 0 := by
    unfold valI at h
    split at h
    ·rename_i hh; simp only [hasI, decide_eq_true_eq] at hh; exact hh.1
    ·cases h
   obtain ⟨i, hi'⟩ := Int.eq_ofNat_of_zero_le h0
   rw [hi'] at h
   exact valI_lt hi h
  rcases hn with h | h | h
  ·exact constI_lt hi h
  ·exact hv _ h
  ·exact hv _ h
noncomputable def lettersW (w : List In4) : List In4 := lettersL w (ownN w ++ toldN w)
theorem ltr_k {l : List In4} {x : In4} (hl : ∀ y ∈ l, y.k < 4294967296) (hx : x.k < 4294967296) : ∀ y ∈ ltr l x, y.k < 4294967296 := by
 unfold ltr
 split
 ·exact hl
 ·split
  ·intro y hy
   rcases List.mem_append.1 hy with h | h
   ·exact hl y h
   ·rw [List.mem_singleton.1 h]; exact hx
  ·exact hl
theorem ltrs_k : ∀ {xs l : List In4}, (∀ y ∈ l, y.k < 4294967296) → (∀ y ∈ xs, y.k < 4294967296) → ∀ y ∈ ltrs l xs, y.k < 4294967296
 | [], _, hl, _ => hl
 | x :: xs, l, hl, hx => by
  show ∀ y ∈ ltrs (ltr l x) xs, y.k < 4294967296
  exact ltrs_k (ltr_k hl (hx x (by simp))) fun y hy => hx y (by simp [hy])
theorem letters_k {w : List In4} {nums : List Nat} (hk : ∀ x ∈ w, x.k < 4294967296) (hn : ∀ n ∈ nums, n < 4294967296) : ∀ y ∈ lettersL w nums, y.k < 4294967296 := by
 refine ltrs_k (ltrs_k (ltrs_k (by simp) hk) ?_) ?_
 ·intro y hy
  simp only [List.mem_cons, List.not_mem_nil, or_false] at hy
  rcases hy with rfl | rfl <;> decide
 ·intro y hy
  simp only [List.mem_flatMap, lops, List.mem_map] at hy
  obtain ⟨n, h1, o, _, rfl⟩ := hy
  exact hn n h1
theorem letters_len (w : List In4) (nums : List Nat) : (lettersL w nums).length ≤ w.length + 2 + 6 * nums.length := by
 unfold lettersL
 have h1 := ltrs_len w []
 have h2 := ltrs_len [⟨7, 0, 0, 0⟩, ⟨135, 0, 0, 0⟩] (ltrs [] w)
 have h3 := ltrs_len (nums.flatMap lops) (ltrs (ltrs [] w) [⟨7, 0, 0, 0⟩, ⟨135, 0, 0, 0⟩])
 have h4 : (nums.flatMap lops).length = 6 * nums.length := by
  generalize nums = l
  induction l with
  | nil => rfl
  | cons a l ih => rw [List.flatMap_cons, List.length_append, ih, List.length_cons]; simp [lops, ops6]; omega
 simp at h1 h2
 omega
theorem told_len (w : List In4) : (toldN w).length ≤ 3 := by
 have h1 : ∀ o : Option Nat, o.toList.length ≤ 1 := fun o => by cases o <;> simp
 have a1 := h1 (constI (winV [] w).L ((winV [] w).p.getD 0 0))
 have a2 := h1 (valI (zeros 34) (winV [] w).L ((winV [] w).p.getD 0 0))
 have a3 := h1 (valI (4294967295 :: zeros 33) (winV [] w).L ((winV [] w).p.getD 0 0))
 rw [toldN, List.length_append, List.length_append]
 omega
theorem lettersW_k {w : List In4} (hk : ∀ x ∈ w, x.k < 4294967296) (hw : winB w = true) : ∀ y ∈ lettersW w, y.k < 4294967296 := letters_k hk (nums_lt hk hw)
theorem lettersW_len {w : List In4} (hw : winB w = true) : (lettersW w).length ≤ 300 := by
 have hw32 : w.length ≤ 32 := by simp only [winB, Bool.and_eq_true, decide_eq_true_eq] at hw; exact hw.1
 have h1 := letters_len w (ownN w ++ toldN w)
 have h2 := ownN_len w
 have h3 := told_len w
 rw [List.length_append] at h1
 unfold lettersW
 omega
theorem Cands_F [HasSrcC G] (H : Heap) (w L : List In4) : Big G (.F 329 [.vs (IL w) .no, .vs (IL L) .no] H (.fn 328 [.ptr H.length 0, .ptr (H.length + 1) 0]) (H ++ [some (.cells [.vs (IL w) .no]), some (.cells [.vs (IL L) .no])])) := by
 refine F_of HasSrcC.h_search_candidates (Nat.le_of_ble_eq_true rfl) ?_
 simp [ap0, apk, set0, setk]
noncomputable def findR (w : List In4) (live : Nat) (tries : Int) : Option (List In4) :=
 match firstC (hitF w live tries) (candL w (lettersW w)) 0 with
 | some p => if tries ≤ p.1 then none else some p.2
 | none => none
theorem Find_ok [HasWd G] [HasNeg G] [HasIns G] [HasCheck G] [HasData G] [HasWith G] [HasStep G] [HasWRight G] [HasWinRun G] [HasWinAsg G] [HasWinState G] [HasWinOf G] [HasAffApart G] [HasAffine G] [hBA : HasBitsA G] [HasSymNew G] [HasSym G] [HasSymEval G] [HasSymApart G] [HasDecDf G] [HasDec G] [HasSrcN G] [HasSrcL G] [HasSrcC G] [HasSrcF G]
  (w : List In4) (live : Nat) (tries : Int) (hf : w.length ≤ maxLen) (hk : ∀ x ∈ w, x.k < 4294967296) (hw : winB w = true) (hlv : live < 4294967296) :
  FP G 333 [FL w, .int .u32 live, .int .i64 tries] (.tup [FL ((findR w live tries).getD []), .bool (findR w live tries).isSome, .int .i64 0]) := by
 haveI : HasBitsE G := hBA.toHasBitsE
 refine FP_of HasSrcF.h_search_Find (Nat.le_of_ble_eq_true rfl) ?_
 have hl := Letters_ok (G := G) w hf hk hw (nums_lt hk hw)
 have hLk := lettersW_k hk hw
 have hLl := lettersW_len hw
 have hw32 : w.length ≤ 32 := by simp only [winB, Bool.and_eq_true, decide_eq_true_eq] at hw; exact hw.1
 have hR : findR w live tries = findR w live tries := rfl
 conv at hR => rhs; unfold findR
 change FP G 330 [FL w] (.tup [FL (lettersW w), .int .i64 0]) at hl
 generalize lettersW w = L at hl hLk hLl hR
 simp only [FL] at hl
 simp [FL]
 refine callP_of hl ?_
 simp
 refine callK_of (Cands_F _ w L) (by simp) ?_
 simp
 have hcnd := cands1_ok (G := G) (H := FH w L live tries [] false .ready) FH_shut (id := 8) (i1 := 6) (i2 := 7) (w := w) (L := L) (tk := .no) (by omega) (by omega) rfl rfl (show 8 < 9 by decide) (hit := hitF w live tries)
  (H' := fun k c => if tries ≤ (k : Int) then FH w L live tries [] false (.done (.exit 0)) else FH w L live tries c true (.done .ret))
  (fun k c hc hh X hX => by
   have hm := List.mem_of_getElem? hc
   have := find1_ok (G := G) (L := L) (tries := tries) k c hf hk hlv (by have := cand_short hm; simp only [maxLen]; omega) (fun x hx => hLk x (cand_mem hm x hx)) X hX
   rw [hh] at this
   simp only [hitF, Bool.or_eq_false_iff, decide_eq_false_iff_not] at hh
   rw [if_neg hh.1, if_neg hh.2] at this
   exact this)
  (fun k c hc hh X hX => by
   have hm := List.mem_of_getElem? hc
   have := find1_ok (G := G) (L := L) (tries := tries) k c hf hk hlv (by have := cand_short hm; simp only [maxLen]; omega) (fun x hx => hLk x (cand_mem hm x hx)) X hX
   rw [hh] at this
   simp only [hitF, Bool.or_eq_true, decide_eq_true_eq] at hh
   by_cases ht : tries ≤ (k : Int)
   ·rw [if_pos ht] at this ⊢
    exact this
   ·rw [if_neg ht, if_pos (hh.resolve_left ht)] at this
    rw [if_neg ht]
    exact this)
  (fun k c hc hh => by
   by_cases ht : tries ≤ (k : Int)
   ·rw [if_pos ht]; exact ⟨(FH_shut (w := w) (L := L) (live := live) (tries := tries) (o := []) (b := false) (st := .done (.exit 0))).self, rfl⟩
   ·rw [if_neg ht]; exact ⟨(FH_shut (w := w) (L := L) (live := live) (tries := tries) (o := c) (b := true) (st := .done .ret)).self, rfl⟩)
 have ht8 : ∀ o b st, trunc 8 (FH w L live tries o b st) = [some (.cells [.vs (IL w) .no]), some (.cells [.int .u32 live]), some (.cells [.int .i64 tries]), some (.cells [.vs (IL o) .full]), some (.cells [.bool b]), some (.cells [.int .i64 0]), some (.cells [.vs (IL w) .no]), some (.cells [.vs (IL L) .no])] := fun o b st => by
  simp [trunc, FH, Blk.cl, clL, V.cl, Tk.cl]
 cases hfc : firstC (hitF w live tries) (candL w L) 0 with
 | none =>
  rw [hfc] at hcnd hR
  simp only [] at hcnd hR
  refine rangeSF_of hcnd rfl (.inl ⟨rfl, rfl⟩) ?_
  simp [ht8, hR, keep_cl]
 | some p =>
  rw [hfc] at hcnd hR
  simp only [] at hcnd hR
  by_cases ht : tries ≤ (p.1 : Int)
  ·rw [if_pos ht] at hcnd hR
   refine rangeSF_of (x := .exit 0) hcnd rfl (.inr ⟨rfl, by simp⟩) ?_
   simp [ht8, hR, keep_cl]
  ·rw [if_neg ht] at hcnd hR
   refine rangeSF_of (x := .ret) hcnd rfl (.inr ⟨rfl, by simp⟩) ?_
   simp [ht8, hR, keep_cl]
end Go.Ev
