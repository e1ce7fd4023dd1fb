/- decide.Decide. -/
import Derived.Test.YtkodfphojbfieaaGreatDoorWinKW
import Derived.KernelRfl
import Derived.Test.YtkodfphojbfieaaGreatDoorEvBitsCW
import Derived.Test.YtkodfphojbfieaaGreatDoorEvSymCW
set_option linter.unusedVariables false
set_option linter.unusedSimpArgs false
namespace Go.Ev
open Go Go.RowKit
variable {G : Tbl}
set_option maxRecDepth 10000
set_option maxHeartbeats 4000000
set_option linter.unusedSimpArgs false
set_option linter.unusedVariables false
noncomputable def decR (v w : List In4) (live : Nat) : Int × Option (List Nat) :=
 if (winB v && winB w) = true then
  if sameB (winV [] v).p (winV (winV [] v).L w).p (winV [] v).st (winV (winV [] v).L w).st live = true then (0, none)
  else match (triesL (winV (winV [] v).L w).L (winV [] v).p (winV (winV [] v).L w).p live).find? fun r => diffR v w live (stO r) (ofW (r.drop 18)) with
   | some r => (1, some r)
   | none => (2, none)
 else (0, none)
def newH5 (a b c d e : List V) : Heap := [some (.cells a), some (.cells b), some (.cells c), some (.cells d), some (.cells e), some (.map []), some (.cells [.vs [] (.own 7), .mp 5]), some (.zone 0)]
theorem newH5_bk {a b c d e : List V} (ha : ∀ n, clL n a = a) (hb : ∀ n, clL n b = b) (hc : ∀ n, clL n c = c) (hd : ∀ n, clL n d = d) (he : ∀ n, clL n e = e) : Bk (newH5 a b c d e) 6 7 5 [] := by
 refine ⟨rfl, rfl, rfl, fun n hn => ?_, fun a h => (by cases h), by decide⟩
 simp only [newH5, List.length_cons, List.length_nil] at hn
 simp [newH5, Blk.cl, ha, hb, hc, hd, he, clL, V.cl, Tk.cl, show 7 < n by omega, show 5 < n by omega]
theorem New5_ok [HasSymNew G] (a b c d e : List V) : Big G (.F 256 [] [some (.cells a), some (.cells b), some (.cells c), some (.cells d), some (.cells e)] (.ptr 6 0) [some (.cells a), some (.cells b), some (.cells c), some (.cells d), some (.cells e), some (.map []), some (.cells [.vs [] .full, .mp 5])]) := by
 refine F_of HasSymNew.h_sym_New (Nat.le_of_ble_eq_true rfl) ?_
 simp
section
variable {H : Heap} {b z m : Nat} {L : List Nd}
noncomputable def ofC (L : List Nd) (w : List In4) : List V := if winB w = true then vcs (winV L w).p (winV L w).st .no else vcs (List.replicate 18 0) [] .full
noncomputable def ofL (L : List Nd) (w : List In4) : List Nd := if winB w = true then (winV L w).L else L
theorem Of_any [HasWd G] [HasNeg G] [HasIns G] [HasCheck G] [HasWRight G] [HasAffine G] [HasBits G] [HasSym G] [HasWinOf G] (w : List In4) (h : Bk H b z m L) (hi : Inv L) (hs : L.length ≤ 800000) (hf : w.length ≤ maxLen) (hk : ∀ x ∈ w, x.k < 4294967296) :
  SF G 296 [.ptr b 0, FL w] H (.tup [.agg (ofC L w), .bool (winB w)]) (upd H b z m (ofL L w)) := by
 cases hw : winB w with
 | true =>
  have := Of_ok (G := G) w h hi hs hf hk hw
  simpa only [ofC, ofL, hw, if_true] using this
 | false =>
  have := Of_no (G := G) w h hf hk hw
  simpa only [ofC, ofL, hw, Bool.false_eq_true, if_false, h.upd_self] using this
theorem ofC_len (hi : Inv L) {w : List In4} (hk : ∀ x ∈ w, x.k < 4294967296) : (ofC L w).length = 19 := by
 unfold ofC
 split
 ·exact vcs_len (winV_ok hi w hk).len
 ·rfl
theorem ofC_cl (w : List In4) (n : Nat) : clL n (ofC L w) = ofC L w := by
 unfold ofC
 split <;> (rw [clL_eq_map, vcs]; simp [cints, Function.comp_def, V.cl, Tk.cl])
theorem ofL_inv (hi : Inv L) {w : List In4} (hk : ∀ x ∈ w, x.k < 4294967296) : Inv (ofL L w) := by
 unfold ofL
 split
 ·exact (winV_ok hi w hk).ext.inv
 ·exact hi
theorem ofL_len (hi : Inv L) {w : List In4} (hk : ∀ x ∈ w, x.k < 4294967296) : (ofL L w).length ≤ L.length + 114 := by
 unfold ofL
 split
 ·rename_i hw
  have hw32 : w.length ≤ 32 := by simp only [winB, Bool.and_eq_true, decide_eq_true_eq] at hw; exact hw.1
  have := (winV_ok hi w hk).ext.len
  omega
 ·omega
end
theorem ansC_len (c : Int) : (ansC c none).length = 28 := rfl
theorem ansC_cl (c : Int) (o : Option (List Nat)) (n : Nat) : clL n (ansC c o) = ansC c o := by cases o <;> simp [ansC, clL_eq_map, V.cl, St.cs, Da.cs, cnats, Function.comp_def]
theorem ansC_nf (c : Int) (o : Option (List Nat)) : (ansC c o).map V.nf1 = ansC c o := by cases o <;> simp [ansC, V.nf1, St.cs, Da.cs, cnats, Function.comp_def]
theorem ansC_take (c : Int) : (ansC c none).take 28 = ansC c none := List.take_of_length_le (by rw [ansC_len]; exact Nat.le_refl _)
theorem ansC_drop (c : Int) : (ansC c none).drop 28 = [] := List.drop_eq_nil_of_le (by rw [ansC_len]; exact Nat.le_refl _)
theorem Tries_F [HasDec G] (H : Heap) (b live : Nat) (X1 X2 : List V) (k1 : ∀ n, clL n X1 = X1) (k2 : ∀ n, clL n X2 = X2) (m1 : X1.map V.nf1 = X1) (m2 : X2.map V.nf1 = X2) :
  Big G (.F 311 [.ptr b 0, .agg X1, .agg X2, .int .u32 live] H (.fn 310 [.ptr (H.length + 3) 0, .ptr H.length 0, .ptr (H.length + 1) 0, .ptr (H.length + 2) 0])
   (H ++ [some (.cells [.ptr b 0]), some (.cells X1), some (.cells X2), some (.cells [.int .u32 live])])) := by
 refine F_of HasDec.h_decide_tries (Nat.le_of_ble_eq_true rfl) ?_
 simp [m1, m2, ap0, apk, set0, setk]
theorem Decide_ok [HasWd G] [HasNeg G] [HasIns G] [HasCheck G] [HasData G] [HasWith G] [HasStep G] [HasWRight G] [HasWinRun G] [HasWinAsg G] [HasWinState G] [HasWinOf G] [HasAffApart G] [HasAffine G] [hBA : HasBitsA G] [HasSymNew G] [HasSym G] [HasSymApart G] [HasDecDf G] [HasDec G]
  (v w : List In4) (live : Nat) (hf : v.length ≤ maxLen) (hg : w.length ≤ maxLen) (hk : ∀ x ∈ v, x.k < 4294967296) (hkw : ∀ x ∈ w, x.k < 4294967296) (hlv : live < 4294967296) :
  FP G 312 [FL v, FL w, .int .u32 live] (.tup [.agg (ansC (decR v w live).1 (decR v w live).2), .int .i64 (if (winB v && winB w) = true then 0 else 1)]) := by
 haveI : HasBits G := hBA.toHasBits
 refine FP_of HasDec.h_decide_Decide (Nat.le_of_ble_eq_true rfl) ?_
 obtain ⟨Z, hZ⟩ : ∃ Z : List V, Z = vcs (List.replicate 18 0) [] .full := ⟨_, rfl⟩
 have lZ : Z.length = 19 := by rw [hZ]; rfl
 have drop19 : Z.drop 19 = [] := List.drop_eq_nil_of_le (by omega)
 have hZz : [V.int .i64 0, .int .i64 0, .int .i64 0, .int .i64 0, .int .i64 0, .int .i64 0, .int .i64 0, .int .i64 0, .int .i64 0, .int .i64 0, .int .i64 0, .int .i64 0, .int .i64 0, .int .i64 0, .int .i64 0, .int .i64 0, .int .i64 0, .int .i64 0, .vs [] .full] = Z := by rw [hZ]; rfl
 obtain ⟨A0, hA0⟩ : ∃ A0 : List V, A0 = ansC 0 none := ⟨_, rfl⟩
 have hA0z : V.int .i64 0 :: (cnats .u32 (zeros 20) ++ cnats .u64 (zeros 7)) = A0 := by rw [hA0]; rfl
 have lA0 : A0.length = 28 := by rw [hA0]; rfl
 have kA0 : ∀ n, clL n A0 = A0 := fun n => by rw [hA0]; simp [ansC, clL_eq_map, V.cl, cnats, Function.comp_def]
 have hB := newH5_bk (a := [.vs (IL v) .no]) (b := [.vs (IL w) .no]) (c := [.int .u32 live]) (d := A0) (e := [.int .i64 0]) (fun n => by simp [clL, V.cl, Tk.cl]) (fun n => by simp [clL, V.cl, Tk.cl]) (fun n => by simp [clL, V.cl]) kA0 (fun n => by simp [clL, V.cl])
 obtain ⟨H0, hH0⟩ : ∃ H0, H0 = newH5 [.vs (IL v) .no] [.vs (IL w) .no] [.int .u32 live] A0 [.int .i64 0] := ⟨_, rfl⟩
 rw [← hH0] at hB
 have n0 : H0.length = 8 := by rw [hH0]; rfl
 have t0 : ∀ r, trunc 8 (H0 ++ r) = H0 := fun r => by have := hB.shut.back r; rwa [n0] at this
 have a8 : ∀ r : Heap, (H0 ++ r)[8]? = r[0]? := fun r => apn0 n0
 have a9 : ∀ r : Heap, (H0 ++ r)[9]? = r[1]? := fun r => apnk n0 1
 have b8 : ∀ (r : Heap) x, (H0 ++ r).set 8 x = H0 ++ r.set 0 x := fun r x => setn0 n0 x
 have b9 : ∀ (r : Heap) x, (H0 ++ r).set 9 x = H0 ++ r.set 1 x := fun r x => setnk n0 1 x
 have o0 : ∀ r : Heap, (H0 ++ r)[0]? = some (some (.cells [.vs (IL v) .no])) := fun r => by rw [hH0]; rfl
 have o1 : ∀ r : Heap, (H0 ++ r)[1]? = some (some (.cells [.vs (IL w) .no])) := fun r => by rw [hH0]; rfl
 have o3 : ∀ r : Heap, (H0 ++ r)[3]? = some (some (.cells A0)) := fun r => by rw [hH0]; rfl
 have o4 : ∀ r : Heap, (H0 ++ r)[4]? = some (some (.cells [.int .i64 0])) := fun r => by rw [hH0]; rfl
 have hBn : Bk (H0 ++ [none]) 6 7 5 [] := hB.app fun n => by simp
 simp [FL, hA0z]
 refine callK_of (New5_ok [.vs (IL v) .no] [.vs (IL w) .no] [.int .u32 live] A0 [.int .i64 0]) (by simp) ?_
 simp
 rw [show ([some (.cells [.vs (IL v) .no]), some (.cells [.vs (IL w) .no]), some (.cells [.int .u32 live]), some (.cells A0), some (.cells [.int .i64 0]), some (.map []), some (.cells [.vs [] (.own 7), .mp 5]), some (.zone 0), none] : Heap) = H0 ++ [none] from by rw [hH0]; rfl]
 obtain ⟨L1, hL1⟩ : ∃ L1, L1 = ofL [] v := ⟨_, rfl⟩
 obtain ⟨X1, hX1⟩ : ∃ X1, X1 = ofC [] v := ⟨_, rfl⟩
 have i1 : Inv L1 := by rw [hL1]; exact ofL_inv Inv.nil hk
 have z1 : L1.length ≤ 114 := by rw [hL1]; simpa using ofL_len Inv.nil hk
 have x1 : X1.length = 19 := by rw [hX1]; exact ofC_len Inv.nil hk
 have c1 : ∀ n, clL n X1 = X1 := fun n => by rw [hX1]; exact ofC_cl v n
 have hof := Of_any (G := G) v hBn Inv.nil (by decide) hf hk
 rw [← hL1, ← hX1, hB.upd_app] at hof
 obtain ⟨U, hU⟩ : ∃ U, U = upd H0 6 7 5 L1 := ⟨_, rfl⟩
 have hUB : Bk U 6 7 5 L1 := by rw [hU]; exact hB.to i1 (by omega)
 rw [← hU] at hof
 have nU : U.length = 8 := by rw [hU, upd_len, n0]
 have keepU : ∀ {p : Nat} {c : List V}, (H0 ++ [])[p]? = some (some (.cells c)) → p ≠ 6 → U[p]? = some (some (.cells c)) := fun {p c} hp hne => by
  rw [hU]; exact upd_other hB (by simpa using hp) hne
 obtain ⟨L2, hL2⟩ : ∃ L2, L2 = ofL L1 w := ⟨_, rfl⟩
 obtain ⟨X2, hX2⟩ : ∃ X2, X2 = ofC L1 w := ⟨_, rfl⟩
 have i2 : Inv L2 := by rw [hL2]; exact ofL_inv i1 hkw
 have z2 : L2.length ≤ 228 := by rw [hL2]; have := ofL_len i1 hkw; omega
 have x2 : X2.length = 19 := by rw [hX2]; exact ofC_len i1 hkw
 have c2 : ∀ n, clL n X2 = X2 := fun n => by rw [hX2]; exact ofC_cl w n
 have hUX : Bk (U ++ [some (.cells X1), none]) 6 7 5 L1 := hUB.app fun n => by simp [Blk.cl, c1]
 have hof2 := Of_any (G := G) w hUX i1 (by omega) hg hkw
 rw [← hL2, ← hX2, hUB.upd_app] at hof2
 obtain ⟨T, hT⟩ : ∃ T, T = upd U 6 7 5 L2 := ⟨_, rfl⟩
 have hTB : Bk T 6 7 5 L2 := by rw [hT]; exact hUB.to i2 (by omega)
 rw [← hT] at hof2
 have nT : T.length = 8 := by rw [hT, upd_len, nU]
 have keepT : ∀ {p : Nat} {c : List V}, (H0 ++ [])[p]? = some (some (.cells c)) → p ≠ 6 → T[p]? = some (some (.cells c)) := fun {p c} hp hne => by
  rw [hT]; exact upd_other hUB (keepU hp hne) hne
 have apl : ∀ {A : Heap} {p : Nat} {c : List V}, A[p]? = some (some (.cells c)) → ∀ r : Heap, (A ++ r)[p]? = some (some (.cells c)) := fun {A p c} hp r => by
  rw [List.getElem?_append_left (List.getElem?_eq_some_iff.1 hp).1]; exact hp
 have u1 := apl (keepU (o1 []) (by decide))
 have u1' : ∀ (r : Heap) h, (U ++ r)[1]'h = some (.cells [.vs (IL w) .no]) := fun r h => (List.getElem?_eq_some_iff.1 (u1 r)).2
 have q0 := apl (keepT (o0 []) (by decide))
 have q1 := apl (keepT (o1 []) (by decide))
 have q2 := apl (keepT (c := [.int .u32 live]) (p := 2) (by rw [hH0]; rfl) (by decide))
 have q3 := apl (keepT (o3 []) (by decide))
 have q4 := apl (keepT (o4 []) (by decide))
 have q0' : ∀ (r : Heap) h, (T ++ r)[0]'h = some (.cells [.vs (IL v) .no]) := fun r h => (List.getElem?_eq_some_iff.1 (q0 r)).2
 have q1' : ∀ (r : Heap) h, (T ++ r)[1]'h = some (.cells [.vs (IL w) .no]) := fun r h => (List.getElem?_eq_some_iff.1 (q1 r)).2
 have q2' : ∀ (r : Heap) h, (T ++ r)[2]'h = some (.cells [.int .u32 live]) := fun r h => (List.getElem?_eq_some_iff.1 (q2 r)).2
 have q3' : ∀ (r : Heap) h, (T ++ r)[3]'h = some (.cells A0) := fun r h => (List.getElem?_eq_some_iff.1 (q3 r)).2
 have q4' : ∀ (r : Heap) h, (T ++ r)[4]'h = some (.cells [.int .i64 0]) := fun r h => (List.getElem?_eq_some_iff.1 (q4 r)).2
 have ua8 : ∀ r : Heap, (U ++ r)[8]? = r[0]? := fun r => apn0 nU
 have ua9 : ∀ r : Heap, (U ++ r)[9]? = r[1]? := fun r => apnk nU 1
 have ub8 : ∀ (r : Heap) x, (U ++ r).set 8 x = U ++ r.set 0 x := fun r x => setn0 nU x
 have ub9 : ∀ (r : Heap) x, (U ++ r).set 9 x = U ++ r.set 1 x := fun r x => setnk nU 1 x
 have ta8 : ∀ r : Heap, (T ++ r)[8]? = r[0]? := fun r => apn0 nT
 have ta9 : ∀ r : Heap, (T ++ r)[9]? = r[1]? := fun r => apnk nT 1
 have tb8 : ∀ (r : Heap) x, (T ++ r).set 8 x = T ++ r.set 0 x := fun r x => setn0 nT x
 have tb9 : ∀ (r : Heap) x, (T ++ r).set 9 x = T ++ r.set 1 x := fun r x => setnk nT 1 x
 have d1 : X1.drop 19 = [] := List.drop_eq_nil_of_le (by omega)
 have d2 : X2.drop 19 = [] := List.drop_eq_nil_of_le (by omega)
 have e1 : X1.take 19 = X1 := List.take_of_length_le (by omega)
 have e2 : X2.take 19 = X2 := List.take_of_length_le (by omega)
 simp only [FL] at hof hof2
 refine callSF_of hof ?_
 simp [nU, ua8, ub8, hZz, lZ, drop19, x1, d1, e1, u1, u1']
 refine callSF_of hof2 ?_
 simp [nT, ta8, ta9, tb8, tb9, hZz, lZ, drop19, x1, d1, e1, x2, d2, e2, keep_cl]
 have hlt : ∀ p, p < 8 → p < T.length := fun p hp => by omega
 have ts3 : ∀ (r : Heap) x, (T ++ r).set 3 x = T.set 3 x ++ r := fun r x => List.set_append_left _ _ (by omega)
 have ts4 : ∀ (r : Heap) y x, (T.set 3 y ++ r).set 4 x = (T.set 3 y).set 4 x ++ r := fun r y x => List.set_append_left _ _ (by simp; omega)
 have tg3 : ∀ (r : Heap) y x, ((T.set 3 y).set 4 x ++ r)[3]? = some y := fun r y x => by
  rw [List.getElem?_append_left (by simp; omega), List.getElem?_set_ne (by decide), List.getElem?_set_self (by omega)]
 have tg4 : ∀ (r : Heap) y x, ((T.set 3 y).set 4 x ++ r)[4]? = some x := fun r y x => by
  rw [List.getElem?_append_left (by simp; omega), List.getElem?_set_self (by simp; omega)]
 have tg4' : ∀ (r : Heap) y, (T.set 3 y ++ r)[4]? = some (some (.cells [.int .i64 0])) := fun r y => by
  have := q4 []
  rw [List.getElem?_append_left (by simp; omega), List.getElem?_set_ne (by decide)]
  simpa using this
 have tg4'' : ∀ (r : Heap) y h, (T.set 3 y ++ r)[4]'h = some (.cells [.int .i64 0]) := fun r y h => (List.getElem?_eq_some_iff.1 (tg4' r y)).2
 have tg3n : ∀ (r : Heap) y x h, ((T.set 3 y).set 4 x ++ r)[3]'h = y := fun r y x h => (List.getElem?_eq_some_iff.1 (tg3 r y x)).2
 have tg4n : ∀ (r : Heap) y x h, ((T.set 3 y).set 4 x ++ r)[4]'h = x := fun r y x h => (List.getElem?_eq_some_iff.1 (tg4 r y x)).2
 have A28 : A0.take 28 = A0 := List.take_of_length_le (by omega)
 have D28 : A0.drop 28 = [] := List.drop_eq_nil_of_le (by omega)
 have nA0 : A0.map V.nf1 = A0 := by rw [hA0]; simp [ansC, cnats, Function.comp_def, V.nf1]
 cases hv : winB v with
 | false =>
  have hd : decR v w live = (0, none) := by simp [decR, hv]
  simp [hd, ← hA0, nT, q3, q3', lA0, ts3, ts4, A28, D28, tg3, tg4, tg4', tg4'', tg3n, tg4n, keep_cl, kA0, nA0]
 | true =>
 cases hw : winB w with
 | false =>
  have hd : decR v w live = (0, none) := by simp [decR, hv, hw]
  simp [hd, ← hA0, nT, q3, q3', lA0, ts3, ts4, A28, D28, tg3, tg4, tg4', tg4'', tg3n, tg4n, keep_cl, kA0, nA0]
 | true =>
 have hXv : X1 = vcs (winV [] v).p (winV [] v).st .no := by rw [hX1, ofC, if_pos hv]
 have hLv : L1 = (winV [] v).L := by rw [hL1, ofL, if_pos hv]
 have hXw : X2 = vcs (winV L1 w).p (winV L1 w).st .no := by rw [hX2, ofC, if_pos hw]
 have hLw : L2 = (winV L1 w).L := by rw [hL2, ofL, if_pos hw]
 have k1 := winV_ok Inv.nil v hk
 have k2 := winV_ok i1 w hkw
 have hD : decR v w live = decR v w live := rfl
 conv at hD => rhs; rw [decR, hv, hw, if_pos (show (true && true) = true from rfl), ← hLv, ← hLw]
 obtain ⟨P, hP⟩ : ∃ P, P = (winV [] v).p := ⟨_, rfl⟩
 obtain ⟨S, hS⟩ : ∃ S, S = (winV [] v).st := ⟨_, rfl⟩
 obtain ⟨Q, hQ⟩ : ∃ Q, Q = (winV L1 w).p := ⟨_, rfl⟩
 obtain ⟨R, hR⟩ : ∃ R, R = (winV L1 w).st := ⟨_, rfl⟩
 have pl : P.length = 18 := by rw [hP]; exact k1.len
 have ql : Q.length = 18 := by rw [hQ]; exact k2.len
 have sl : S.length ≤ 1000000 := by
  have hw32 : v.length ≤ 32 := by simp only [winB, Bool.and_eq_true, decide_eq_true_eq] at hv; exact hv.1
  have := k1.st
  rw [hS]; omega
 rw [← hP, ← hQ, ← hS, ← hR] at hD
 rw [← hP, ← hS] at hXv
 rw [← hQ, ← hR] at hXw
 have hsa := same_ok (G := G) P Q S R live hlv pl ql sl
 rw [← hXv, ← hXw] at hsa
 have m1 : X1.map V.nf1 = X1 := by rw [hXv]; simp [vcs, cints, Function.comp_def, V.nf1]
 have m2 : X2.map V.nf1 = X2 := by rw [hXw]; simp [vcs, cints, Function.comp_def, V.nf1]
 simp [nT, q2, q2', ta8, ta9, x1, x2, e1, e2, keep_cl, m1, m2, c1, c2]
 refine callP_of hsa ?_
 cases hsm : sameB P Q S R live with
 | true =>
  rw [hsm, if_pos rfl] at hD
  have At : V.int .i64 0 :: A0.tail = A0 := by rw [hA0]; rfl
  simp [hD, ← hA0, nT, q3, q3', lA0, ts3, ts4, A28, D28, tg3, tg4, tg4', tg4'', tg3n, tg4n, keep_cl, kA0, nA0, At]
 | false =>
  rw [hsm] at hD
  simp only [Bool.false_eq_true, if_false] at hD
  simp [nT, q2, q2', ta8, ta9, x1, x2, e1, e2, keep_cl, m1, m2, c1, c2]
  have n10 : (T ++ [some (Blk.cells X1), some (Blk.cells X2)]).length = 10 := by simp [nT]
  have htr := Tries_F (G := G) (T ++ [some (Blk.cells X1), some (Blk.cells X2)]) 6 live X1 X2 c1 c2 m1 m2
  rw [n10, List.append_assoc] at htr
  refine callK_of htr (by simp) ?_
  simp
  subst hA0
  obtain ⟨E, hE⟩ : ∃ E, E = T ++ [some (Blk.cells X1), some (Blk.cells X2), some (.cells [.ptr 6 0]), some (.cells X1), some (.cells X2), some (.cells [.int .u32 live])] := ⟨_, rfl⟩
  have nE : E.length = 14 := by rw [hE]; simp [nT]
  obtain ⟨HH, hHH⟩ : ∃ HH, HH = E ++ [some (Blk.loop tryE [46] tryAs tryBo .ready)] := ⟨_, rfl⟩
  have nHH : HH.length = 15 := by rw [hHH]; simp [nE]
  have hHT : HH = T ++ [some (Blk.cells X1), some (Blk.cells X2), some (.cells [.ptr 6 0]), some (.cells X1), some (.cells X2), some (.cells [.int .u32 live]), some (Blk.loop tryE [46] tryAs tryBo .ready)] := by rw [hHH, hE]; simp
  have hBE : Bk E 6 7 5 L2 := by
   rw [hE]
   refine hTB.app2 fun n hn => ?_
   simp [nT] at hn
   simp [Blk.cl, c1, c2, clL, V.cl, show 6 < n by omega]
  have hBH : Bk HH 6 7 5 L2 := by
   rw [hHH]
   refine hBE.app2 fun n hn => ?_
   simp [nE] at hn
   simp [Blk.cl, tryE, V.cl, show 0 < n by omega, show 1 < n by omega, show 2 < n by omega, show 3 < n by omega, show 4 < n by omega]
  have h14 : HH[14]? = some (some (.loop tryE [46] tryAs tryBo .ready)) := by rw [hHH]; exact apn0 nE
  have hTH : TryH HH v w live := ⟨by rw [hHT]; exact q0 _, by rw [hHT]; exact q1 _, by rw [hHT]; exact q2 _, by rw [hHT]; exact q3 _, by rw [hHT]; exact q4 _, h14, hBH.shut⟩
  have h10 : HH[10]? = some (some (.cells [.ptr 6 0])) := by rw [hHT]; exact apnk nT 2
  have h11 : HH[11]? = some (some (.cells (vcs P S .no))) := by rw [hHT, ← hXv]; exact apnk nT 3
  have h12 : HH[12]? = some (some (.cells (vcs Q R .no))) := by rw [hHT, ← hXw]; exact apnk nT 4
  have h13 : HH[13]? = some (some (.cells [.int .u32 live])) := by rw [hHT]; exact apnk nT 5
  have htt := tries1_ok (G := G) hBH i2 (id := 14) (i1 := 13) (i2 := 10) (i3 := 11) (i4 := 12) (live := live) hlv h13 h10 h11 h12 pl ql (by omega) (hit := fun r => diffR v w live (stO r) (ofW (r.drop 18))) (H' := hitH HH)
   (fun r hr hh X hX => by
    obtain ⟨hr1, hr2⟩ := triesL_ok hr
    have := try_ok (G := G) (hTH.app hX) hf hg hk hkw hlv hv hw hr1 hr2 hh
    simpa using this)
   (fun r hr hh X hX => by
    obtain ⟨hr1, hr2⟩ := triesL_ok hr
    have := try_ok (G := G) (hTH.app hX) hf hg hk hkw hlv hv hw hr1 hr2 hh
    rw [hitH_app (by omega)] at this
    simpa using this)
   (fun r hr hh => ⟨by
    have := (hitH_shut hBH.shut (by omega) r).self
    rwa [show (hitH HH r).length = HH.length by simp [hitH]] at this, by simp [hitH]⟩)
  rw [← hE]
  have hbE := hBE.shut.self
  rw [nE] at hbE
  have hlk : look (mkE [(3, V.ptr 0 0), (4, V.ptr 1 0), (5, V.ptr 2 0), (6, V.ptr 3 0), (7, V.ptr 4 0), (45, V.fn 310 [V.ptr 13 0, V.ptr 10 0, V.ptr 11 0, V.ptr 12 0])]) [3, 4, 5, 6, 7] = tryE := by simp [tryE]
  cases hfd : (triesL L2 P Q live).find? (fun r => diffR v w live (stO r) (ofW (r.drop 18))) with
  | none =>
   rw [hfd] at htt hD
   have htE : trunc 14 HH = E := by rw [hHH]; have := hBE.shut.back [some (Blk.loop tryE [46] tryAs tryBo .ready)]; rwa [nE] at this
   refine rangeSF_of (as := tryAs) (bo := tryBo) (x := .nx) (H2 := HH) (r := .tup []) ?_ (by rw [nE]; exact h14) (.inl ⟨rfl, rfl⟩) ?_
   ·rw [nE]
    rw [hHH] at htt
    rw [hHH, hlk]
    exact htt
   rw [nE, htE, hE]
   simp only [] at hD
   have At : ∀ c, V.int .i64 c :: (ansC 0 none).tail = ansC c none := fun c => rfl
   simp [hD, nT, q3, q3', lA0, ts3, ts4, A28, D28, tg3, tg4, tg4', tg4'', tg3n, tg4n, keep_cl, kA0, nA0, At, ansC_len, ansC_cl, ansC_nf, ansC_take, ansC_drop]
  | some r =>
   rw [hfd] at htt hD
   obtain ⟨hr1, hr2⟩ := triesL_ok (List.mem_of_find?_eq_some hfd)
   have lA : (ansC 1 (some r)).length = 28 := by
    have h1 := cs_len (stO_ok hr1 hr2)
    have h2 := dcs_len (ofW_ok (w := r.drop 18) (by simp [hr1]) (fun x hx => hr2 x (List.mem_of_mem_drop hx)))
    simp only [ansC, List.length_cons, List.length_append, h1, h2]
   obtain ⟨A1, hA1⟩ : ∃ A1, A1 = ansC 1 (some r) := ⟨_, rfl⟩
   have kA1 : ∀ n, clL n A1 = A1 := fun n => by rw [hA1]; exact ansC_cl _ _ n
   have nA1 : A1.map V.nf1 = A1 := by rw [hA1]; exact ansC_nf _ _
   rw [← hA1] at lA
   have tA1 : A1.take 28 = A1 := List.take_of_length_le (by omega)
   have hEE : hitH HH r = ((T.set 3 (some (.cells A1))).set 4 (some (.cells [.int .i64 0]))) ++ [some (Blk.cells X1), some (Blk.cells X2), some (.cells [.ptr 6 0]), some (.cells X1), some (.cells X2), some (.cells [.int .u32 live]), some (.loop tryE [46] tryAs tryBo (.done .ret))] := by
    rw [hHT, hitH, ← hA1, ts3, ts4]
    rw [List.set_append_right _ _ (by simp; omega)]
    simp [nT]
   have hsh := hitH_shut hBH.shut (by omega) r
   have hl14 : (hitH HH r)[14]? = some (some (.loop tryE [46] tryAs tryBo (.done .ret))) := by
    unfold hitH
    exact List.getElem?_set_self (by simp; omega)
   have hsh14 : trunc 14 (hitH HH r) = ((T.set 3 (some (.cells A1))).set 4 (some (.cells [.int .i64 0]))) ++ [some (Blk.cells X1), some (Blk.cells X2), some (.cells [.ptr 6 0]), some (.cells X1), some (.cells X2), some (.cells [.int .u32 live])] := by
    have hmE : E.map (Option.map (Blk.cl 14)) = E := by
     have := hbE
     unfold trunc at this
     rwa [List.take_of_length_le (by omega)] at this
    have hE1 : trunc 14 ((E.set 3 (some (.cells A1))).set 4 (some (.cells [.int .i64 0]))) = (E.set 3 (some (.cells A1))).set 4 (some (.cells [.int .i64 0])) := by
     unfold trunc
     rw [List.take_of_length_le (by simp; omega), List.map_set, List.map_set, hmE]
     simp [Blk.cl, kA1, clL, V.cl]
    have hEs : (E.set 3 (some (.cells A1))).set 4 (some (.cells [.int .i64 0])) = ((T.set 3 (some (.cells A1))).set 4 (some (.cells [.int .i64 0]))) ++ [some (Blk.cells X1), some (Blk.cells X2), some (.cells [.ptr 6 0]), some (.cells X1), some (.cells X2), some (.cells [.int .u32 live])] := by rw [hE, ts3, ts4]
    have hcut : hitH HH r = ((E.set 3 (some (.cells A1))).set 4 (some (.cells [.int .i64 0]))) ++ [some (.loop tryE [46] tryAs tryBo (.done .ret))] := by rw [hEs, hEE]; simp
    rw [hcut, trunc_app hE1 (by simp; exact nE), hEs]
   refine rangeSF_of (as := tryAs) (bo := tryBo) (x := .ret) (H2 := hitH HH r) (r := .tup []) ?_ (by rw [nE]; exact hl14) (.inr ⟨rfl, by decide⟩) ?_
   ·rw [nE]
    rw [hlk, ← hHH]
    exact htt
   rw [nE, hsh14]
   simp only [] at hD
   simp [hD, nT, lA, tA1, kA1, nA1, tg3, tg4, tg3n, tg4n, ← hA1]
end Go.Ev
/- The examples of layer 18. -/
namespace Go.Ev
open Go Go.RowKit
variable {G : Tbl}
set_option maxRecDepth 10000
set_option maxHeartbeats 4000000
set_option linter.unusedSimpArgs false
set_option linter.unusedVariables false
theorem same_diff {v w : List In4} {live : Nat} {s : St} {d : Da} (hk : ∀ x ∈ v, x.k < 4294967296) (hkw : ∀ x ∈ w, x.k < 4294967296) (hs : s.ok) (hd : d.ok) (hv : winB v = true) (hw : winB w = true)
  (h : sameB (winV [] v).p (winV (winV [] v).L w).p (winV [] v).st (winV (winV [] v).L w).st live = true) : diffR v w live s d = false := by
 have k1 := winV_ok Inv.nil v hk
 have k2 := winV_ok k1.ext.inv w hkw
 have V1 := (win_vals Inv.nil hs hd hk hv).ext k2.ext
 have V2 := win_vals k1.ext.inv hs hd hkw hw
 obtain ⟨hp, hst⟩ := sameB_yes.1 h
 have hn1 := runW_le d v s
 have hn2 := runW_le d w s
 rw [← hst] at V2
 have one : ∀ {p q : List Int} {st : List Int} {a b : List In4} {L : List Nd}, WV (asgL s d) L p st a d s → WV (asgL s d) L q st b d s → (runW d a s).2 < a.length → (runW d b s).2 ≤ b.length → (runW d b s).2 < b.length := fun {p q st a b L} A B hlt hle => by
  rcases Nat.lt_or_ge (runW d b s).2 b.length with h | h
  ·exact h
  ·exfalso
   have he : (runW d b s).2 = b.length := Nat.le_antisymm hle h
   obtain ⟨x, hx, _, hx0⟩ := A.stop hlt
   have hlt2 := (List.getElem?_eq_some_iff.1 hx).1
   rw [B.num, ← he] at hlt2
   obtain ⟨y, n, hy, _, hyn, hn0⟩ := B.ahead _ hlt2
   rw [hx] at hy
   cases hy
   rw [hx0] at hyn
   cases hyn
   exact hn0 rfl
 unfold diffR
 by_cases e1 : (runW d v s).2 < v.length
 ·have e2 := one V1 V2 e1 hn2
  simp [e1, e2]
 ·have e2 : ¬ (runW d w s).2 < w.length := fun h => e1 (one V2 V1 h hn1)
  rw [if_neg (by simp [e1, e2])]
  have d1 := V1.done (by omega)
  have d2 := V2.done (by omega)
  refine partsD_no fun j hj => ?_
  unfold diffAt
  cases hb : partB live j with
  | false => rfl
  | true =>
   have hpq := hp j hj
   simp only [numDiff, hb, Bool.true_and, bne_eq_false_iff_eq] at hpq
   have o1 := runW_ok hd v s hs hk
   have o2 := runW_ok hd w s hs hkw
   rw [Bool.true_and, bne_eq_false_iff_eq, asg_pt o1 hj, asg_pt o2 hj]
   have h1 := (d1.val j hj).2
   have h2 := (d2.val j hj).2
   rw [hpq, h2] at h1
   exact (Option.some.inj h1).symm
theorem dec_tells {v w : List In4} {live : Nat} (hv : winB v = true) (hw : winB w = true) :
  decR v w live = (0, none) ∧ sameB (winV [] v).p (winV (winV [] v).L w).p (winV [] v).st (winV (winV [] v).L w).st live = true ∨
  (∃ r, decR v w live = (1, some r) ∧ r ∈ triesL (winV (winV [] v).L w).L (winV [] v).p (winV (winV [] v).L w).p live ∧ diffR v w live (stO r) (ofW (r.drop 18)) = true ∧ sameB (winV [] v).p (winV (winV [] v).L w).p (winV [] v).st (winV (winV [] v).L w).st live = false) ∨
  decR v w live = (2, none) ∧ (∀ r ∈ triesL (winV (winV [] v).L w).L (winV [] v).p (winV (winV [] v).L w).p live, diffR v w live (stO r) (ofW (r.drop 18)) = false) ∧ sameB (winV [] v).p (winV (winV [] v).L w).p (winV [] v).st (winV (winV [] v).L w).st live = false := by
 have hD : decR v w live = decR v w live := rfl
 conv at hD => rhs; rw [decR, hv, hw, if_pos (show (true && true) = true from rfl)]
 cases hs : sameB (winV [] v).p (winV (winV [] v).L w).p (winV [] v).st (winV (winV [] v).L w).st live with
 | true =>
  rw [hs, if_pos rfl] at hD
  exact .inl ⟨hD, rfl⟩
 | false =>
  rw [hs] at hD
  simp only [Bool.false_eq_true, if_false] at hD
  cases hfd : (triesL (winV (winV [] v).L w).L (winV [] v).p (winV (winV [] v).L w).p live).find? (fun r => diffR v w live (stO r) (ofW (r.drop 18))) with
  | none =>
   rw [hfd] at hD
   refine .inr (.inr ⟨hD, fun r hr => ?_, rfl⟩)
   have := List.find?_eq_none.1 hfd r hr
   simpa using this
  | some r =>
   rw [hfd] at hD
   have hh := List.find?_some hfd
   exact .inr (.inl ⟨r, hD, List.mem_of_find?_eq_some hfd, hh, rfl⟩)
end Go.Ev
/- knows of layer 18. -/
namespace Go.Ev
open Go Go.RowKit
variable {G : Tbl}
set_option maxRecDepth 10000
set_option maxHeartbeats 4000000
set_option linter.unusedSimpArgs false
set_option linter.unusedVariables false
theorem ansC_cells {r : List Nat} (hr : r.length = 34) (hr' : ∀ x ∈ r, x < 4294967296) (c : Int) : (ansC c (some r)).length = 28 ∧ (ansC c (some r)).tail.take 18 = (stO r).cs ∧ (ansC c (some r)).drop 19 = (ofW (r.drop 18)).cs := by
 have h1 := cs_len (stO_ok hr hr')
 have h2 := dcs_len (ofW_ok (w := r.drop 18) (by simp [hr]) (fun x hx => hr' x (List.mem_of_mem_drop hx)))
 refine ⟨by simp only [ansC, List.length_cons, List.length_append, h1, h2], ?_, ?_⟩
 ·simp only [ansC, List.tail_cons]
  rw [List.take_left' h1]
 ·simp only [ansC]
  rw [List.drop_succ_cons, List.drop_left' h1]
end Go.Ev
/- The laws DecideEqual, DecideDiffer. -/
namespace Go.Ev
open Go Go.RowKit
variable {G : Tbl}
set_option maxRecDepth 10000
set_option maxHeartbeats 4000000
set_option linter.unusedSimpArgs false
set_option linter.unusedVariables false
theorem ansC_hd (c : Int) (o : Option (List Nat)) : (ansC c o).take 1 = [.int .i64 c] := by cases o <;> rfl
theorem decR_len (v w : List In4) (live : Nat) : (ansC (decR v w live).1 (decR v w live).2).length = 28 := by
 cases hww : winB v && winB w with
 | false =>
  have hd0 : decR v w live = (0, none) := by simp [decR, hww]
  rw [hd0]; rfl
 | true =>
  simp only [Bool.and_eq_true] at hww
  rcases dec_tells (live := live) hww.1 hww.2 with ⟨e, _⟩ | ⟨r, e, hr, _, _⟩ | ⟨e, _, _⟩
  ·rw [e]; rfl
  ·obtain ⟨h1, h2⟩ := triesL_ok hr
   rw [e]; exact (ansC_cells h1 h2 1).1
  ·rw [e]; rfl
end Go.Ev
/- Which pieces are free: splice.free, splice.Free, hurdleref22.Free. -/
namespace Go.Ev
open Go Go.RowKit
variable {G : Tbl}
set_option maxRecDepth 10000
set_option maxHeartbeats 2000000
set_option linter.unusedSimpArgs false
set_option linter.unusedVariables false
def noHit (f : List In4) (a m : Nat) : Bool := (List.range m).all fun j => !hitB f f.length (a + 1 + j)
theorem noHit_succ (f : List In4) (a m : Nat) : noHit f a (m + 1) = (noHit f a m && !hitB f f.length (a + 1 + m)) := by simp [noHit, List.range_succ, List.all_append]
theorem noHit_false {f : List In4} {a m n : Nat} (h : hitB f f.length (a + 1 + m) = true) (hm : m < n) : noHit f a n = false := by
 rw [← Bool.not_eq_true, noHit, List.all_eq_true]
 intro h2
 have := h2 m (List.mem_range.2 hm)
 rw [h] at this; cases this
def freeN (f : List In4) (a n : Nat) : Bool := winB ((f.drop a).take n) && noHit f a (n - 1)
def inB (f : List In4) (a n : Int) : Bool := decide (0 ≤ a ∧ 1 ≤ n ∧ a < f.length ∧ n ≤ f.length - a)
def freeR (f : List In4) (a n : Int) : Bool := inB f a n && freeN f a.toNat n.toNat
def freeZ (f : List In4) (a n : Int) : Bool := soundF f && freeR f a n
theorem sound_le {f : List In4} (hs : soundF f = true) : f.length ≤ 4096 := by simp only [soundF, Bool.and_eq_true, decide_eq_true_eq] at hs; exact hs.1.1
theorem slice_k {f : List In4} (hk : ∀ x ∈ f, x.k < 4294967296) (a n : Nat) : ∀ x ∈ (f.drop a).take n, x.k < 4294967296 := fun x hx => hk x (List.mem_of_mem_drop (List.mem_of_mem_take hx))
theorem free_ok [HasIns G] [HasCheck G] [HasWRight G] [HasSpl G] (f : List In4) (a n : Int) (hs : soundF f = true) (hk : ∀ x ∈ f, x.k < 4294967296) :
  FP G 205 [FL f, .vs (bools (hits f f.length)) .no, .int .i64 a, .int .i64 n] (.bool (freeR f a n)) := by
 refine FP_of HasSpl.h_splice_free (Nat.le_of_ble_eq_true rfl) ?_
 have hl := sound_le hs
 have hml : maxLen = 9223372036854775807 := by decide
 by_cases h1 : a < 0
 ·have : freeR f a n = false := by simp [freeR, inB, show ¬ 0 ≤ a by omega]
  simp [h1, this]
 by_cases h2 : n < 1
 ·have : freeR f a n = false := by simp [freeR, inB, show ¬ 1 ≤ n by omega]
  simp [h1, h2, this]
 by_cases h3 : (f.length : Int) ≤ a
 ·have : freeR f a n = false := by simp [freeR, inB, show ¬ a < f.length by omega]
  simp [h1, h2, h3, FL, this]
 have s1 : subI .i64 (f.length : Int) a = (f.length : Int) - a := by rw [subI64] <;> omega
 by_cases h4 : (f.length : Int) - a < n
 ·have : freeR f a n = false := by simp [freeR, inB, show ¬ n ≤ f.length - a by omega]
  simp [h1, h2, h3, h4, s1, FL, this]
 have hin : inB f a n = true := by simp only [inB, decide_eq_true_eq]; omega
 obtain ⟨a, rfl⟩ := Int.eq_ofNat_of_zero_le (show 0 ≤ a by omega)
 obtain ⟨n, rfl⟩ := Int.eq_ofNat_of_zero_le (show 0 ≤ n by omega)
 have hfr : freeR f (a : Int) (n : Int) = freeN f a n := by simp [freeR, hin]
 rw [hfr]
 have h1 : ((a : Int) < 0) = False := eq_false h1
 have h2' : ((n : Int) < 1) = False := eq_false h2
 have h2 : (n = 0) = False := eq_false (by omega)
 have h3 : ((f.length : Int) ≤ (a : Int)) = False := eq_false h3
 have h4 : ((f.length : Int) - (a : Int) < (n : Int)) = False := eq_false h4
 have hbd : a + n ≤ f.length := by omega
 have aa : addI .i64 (a : Int) (n : Int) = ((a + n : Nat) : Int) := addN (by omega)
 have a1 : addI .i64 (a : Int) 1 = ((a + 1 : Nat) : Int) := add1' (by omega)
 have hw := WRight_ok (G := G) ((f.drop a).take n) (by rw [List.length_take]; omega) (slice_k hk a n)
 have hsl : List.take n (List.drop a (IL f)) = IL ((f.drop a).take n) := by rw [IL_drop, IL_take]
 have hhl := hits_len f f.length
 simp only [FL] at hw
 simp (disch := omega) [h1, h2, h2', h3, h4, s1, FL, aa, leTn, hsl, -Int.natCast_add]
 refine callP_of hw ?_
 cases hwb : winB ((f.drop a).take n)
 ·simp [freeN, hwb]
 have hfn : freeN f a n = noHit f a (n - 1) := by simp [freeN, hwb]
 rw [hfn]
 simp [a1, -Int.natCast_add]
 refine W_up (n - 1) (fun j => [(1, .vs (bools (hits f f.length)) .no), (2, .int .i64 a), (3, .int .i64 n), (9, .int .i64 ((a + 1 + j : Nat) : Int))]) (fun _ => []) (fun j => noHit f a j = true) ?_ ?_
 ·simp [keep_cl, trunc, noHit]
 intro j hj hp
 by_cases hlt : j < n - 1
 ·have hF : ((a + 1 + j : Nat) : Int) < ((a + n : Nat) : Int) := by omega
  have hg := hits_get f f.length (a + 1 + j) (by omega)
  obtain ⟨_, hgv⟩ := List.getElem?_eq_some_iff.1 hg
  have a2 : addI .i64 ((a + 1 + j : Nat) : Int) 1 = ((a + 1 + (j + 1) : Nat) : Int) := add1' (by omega)
  cases hh : hitB f f.length (a + 1 + j)
  ·rw [hh] at hg hgv
   have hp' : noHit f a (j + 1) = true := by rw [noHit_succ, hp, hh]; rfl
   simp (disch := omega) [aa, ltT hF, hg, hgv, hhl, hlt, a2, hp', keep_cl, trunc, -Int.natCast_add]
  ·rw [hh] at hg hgv
   have := noHit_false hh hlt
   simp (disch := omega) [aa, ltT hF, hg, hgv, hhl, this, -Int.natCast_add]
 ·have hne : j = n - 1 := by omega
  subst hne
  have hF : ¬ ((a + 1 + (n - 1) : Nat) : Int) < ((a + n : Nat) : Int) := by omega
  simp [aa, ltF hF, hp, -Int.natCast_add]
theorem Free_ok [HasIns G] [HasCheck G] [HasWRight G] [HasSpl G] (f : List In4) (a n : Int) (hf : f.length ≤ maxLen) (hk : ∀ x ∈ f, x.k < 4294967296) :
  FP G 206 [FL f, .int .i64 a, .int .i64 n] (.bool (freeZ f a n)) := by
 refine FP_of HasSpl.h_splice_Free (Nat.le_of_ble_eq_true rfl) ?_
 have hso := Sound_ok (G := G) f hf hk
 simp
 refine callP_of hso ?_
 cases hs : soundF f
 ·simp [freeZ, hs]
 ·simp
  refine callP_of (targets_ok f hs hk) ?_
  simp
  refine callP_of (free_ok f a n hs hk) ?_
  simp [freeZ, hs]
theorem FreeR_ok [HasR2 G] [HasR5 G] [HasR17 G] [HasR22 G] (f : List In4) (a n : Int) (hf : f.length ≤ maxLen) (hk : ∀ x ∈ f, x.k < 4294967296) :
  FP G 211 [FL f, .int .i64 a, .int .i64 n] (.bool (freeZ f a n)) := by
 refine FP_of HasR22.h_hurdleref22_Free (Nat.le_of_ble_eq_true rfl) ?_
 have hso := SoundR_ok (G := G) f hf hk
 simp
 refine callP_of hso ?_
 cases hs : soundF f
 ·simp [freeZ, hs]
 have hfz : freeZ f a n = freeR f a n := by simp [freeZ, hs]
 rw [hfz]
 have hl := sound_le hs
 have hml : maxLen = 9223372036854775807 := by decide
 by_cases h1 : a < 0
 ·have : freeR f a n = false := by simp [freeR, inB, show ¬ 0 ≤ a by omega]
  simp [h1, this]
 by_cases h2 : n < 1
 ·have : freeR f a n = false := by simp [freeR, inB, show ¬ 1 ≤ n by omega]
  simp [h1, h2, this]
 by_cases h3 : (f.length : Int) ≤ a
 ·have : freeR f a n = false := by simp [freeR, inB, show ¬ a < f.length by omega]
  simp [h1, h2, h3, FL, this]
 have s1 : subI .i64 (f.length : Int) a = (f.length : Int) - a := by rw [subI64] <;> omega
 by_cases h4 : (f.length : Int) - a < n
 ·have : freeR f a n = false := by simp [freeR, inB, show ¬ n ≤ f.length - a by omega]
  simp [h1, h2, h3, h4, s1, FL, this]
 have hin : inB f a n = true := by simp only [inB, decide_eq_true_eq]; omega
 obtain ⟨a, rfl⟩ := Int.eq_ofNat_of_zero_le (show 0 ≤ a by omega)
 obtain ⟨n, rfl⟩ := Int.eq_ofNat_of_zero_le (show 0 ≤ n by omega)
 have hfr : freeR f (a : Int) (n : Int) = freeN f a n := by simp [freeR, hin]
 rw [hfr]
 have h1 : ((a : Int) < 0) = False := eq_false h1
 have h2' : ((n : Int) < 1) = False := eq_false h2
 have h2 : (n = 0) = False := eq_false (by omega)
 have h3 : ((f.length : Int) ≤ (a : Int)) = False := eq_false h3
 have h4 : ((f.length : Int) - (a : Int) < (n : Int)) = False := eq_false h4
 have hbd : a + n ≤ f.length := by omega
 have aa : addI .i64 (a : Int) (n : Int) = ((a + n : Nat) : Int) := addN (by omega)
 have a1 : addI .i64 (a : Int) 1 = ((a + 1 : Nat) : Int) := add1' (by omega)
 have hw := Right17_ok (G := G) ((f.drop a).take n) (by rw [List.length_take]; omega) (slice_k hk a n)
 have hsl : List.take n (List.drop a (IL f)) = IL ((f.drop a).take n) := by rw [IL_drop, IL_take]
 simp only [FL] at hw
 simp (disch := omega) [h1, h2, h2', h3, h4, s1, FL, aa, leTn, hsl, -Int.natCast_add]
 refine callP_of hw ?_
 cases hwb : winB ((f.drop a).take n)
 ·simp [freeN, hwb]
 have hfn : freeN f a n = noHit f a (n - 1) := by simp [freeN, hwb]
 rw [hfn]
 simp [a1, -Int.natCast_add]
 refine W_up (n - 1) (fun j => [(0, FL f), (1, .int .i64 a), (2, .int .i64 n), (7, .int .i64 ((a + 1 + j : Nat) : Int))]) (fun _ => []) (fun j => noHit f a j = true) ?_ ?_
 ·simp [keep_cl, trunc, noHit, FL]
 intro j hj hp
 by_cases hlt : j < n - 1
 ·have hF : ((a + 1 + j : Nat) : Int) < ((a + n : Nat) : Int) := by omega
  have a2 : addI .i64 ((a + 1 + j : Nat) : Int) 1 = ((a + 1 + (j + 1) : Nat) : Int) := add1' (by omega)
  simp (disch := omega) [aa, ltT hF, FL, -Int.natCast_add]
  refine W_up f.length (fun i => [(0, FL f), (1, .int .i64 a), (2, .int .i64 n), (7, .int .i64 ((a + 1 + j : Nat) : Int)), (8, .int .i64 i)]) (fun _ => []) (fun i => hitB f i (a + 1 + j) = false) ?_ ?_
  ·simp [keep_cl, trunc, FL, hitB]
  intro i hi hq
  by_cases hil : i < f.length
  ·obtain ⟨x, hfx⟩ : ∃ x, x = f[i] := ⟨_, rfl⟩
   have hg : f[i]? = some x := by rw [List.getElem?_eq_getElem hil, hfx]
   have hD : f.getD i RET = x := by rw [List.getD, hg]; rfl
   have hjm := jumps_ok (G := G) f i (a + 1 + j) x hg (sound_br hs hg) (hk x (hfx ▸ List.getElem_mem hil)) (by omega) (by omega)
   simp only [FL] at hjm
   have hsu := hitB_succ f i (a + 1 + j)
   rw [hq, hD, Bool.false_or] at hsu
   simp (disch := omega) [FL, ltT, -Int.natCast_add]
   refine callP_of hjm ?_
   cases hjb : jumpB x i (a + 1 + j)
   ·rw [hjb] at hsu
    simp (disch := omega) [hil, add1', keep_cl, trunc, FL, hsu, -Int.natCast_add]
   ·rw [hjb] at hsu
    have hh : hitB f f.length (a + 1 + j) = true := by
     rw [hitB, List.any_eq_true]
     exact ⟨i, List.mem_range.2 hil, by rw [hD]; exact hjb⟩
    have := noHit_false hh hlt
    simp [this]
  ·have hne : i = f.length := by omega
   subst hne
   have hp' : noHit f a (j + 1) = true := by rw [noHit_succ, hp, hq]; rfl
   simp (disch := omega) [FL, hlt, a2, hp', keep_cl, trunc, -Int.natCast_add]
 ·have hne : j = n - 1 := by omega
  subst hne
  have hF : ¬ ((a + 1 + (n - 1) : Nat) : Int) < ((a + n : Nat) : Int) := by omega
  simp [aa, ltF hF, hp, FL, -Int.natCast_add]
end Go.Ev
/- A filter with another window: splice.Put. -/
namespace Go.Ev
open Go Go.RowKit
variable {G : Tbl}
set_option maxRecDepth 10000
set_option maxHeartbeats 2000000
set_option linter.unusedSimpArgs false
set_option linter.unusedVariables false
def adjN (a e less i d : Nat) : Nat := if i < a ∧ e ≤ i + 1 + d then d - less else d
def putI (a e less i : Nat) (x : In4) : In4 := if x.op = 5 then { x with k := adjN a e less i x.k } else if isBr x.op then { x with jt := (adjN a e less i x.jt.toNat : Nat), jf := (adjN a e less i x.jf.toNat : Nat) } else x
def pre (f : List In4) (a e less m : Nat) : List In4 := (List.range m).map fun i => putI a e less i (f.getD i RET)
def putL (f : List In4) (a n : Nat) (w : List In4) : List In4 := pre f a (a + n) (n - w.length) a ++ w ++ f.drop (a + n)
def okPut (f : List In4) (a n : Int) (w : List In4) : Bool := freeZ f a n && winB w && decide ((w.length : Int) ≤ n)
def outAt (f : List In4) (a n : Nat) (w : List In4) (i : Nat) : List In4 :=
 if i ≤ a then pre f a (a + n) (n - w.length) i else pre f a (a + n) (n - w.length) a ++ w ++ (f.take i).drop (a + n)
theorem pre_succ (f : List In4) (a e less m : Nat) : pre f a e less (m + 1) = pre f a e less m ++ [putI a e less m (f.getD m RET)] := by simp [pre, List.range_succ]
theorem pre_len (f : List In4) (a e less m : Nat) : (pre f a e less m).length = m := by simp [pre]
theorem outAt_len {f : List In4} {a n : Nat} {w : List In4} {i : Nat} (hi : i ≤ f.length) (hw : w.length ≤ 32) : (outAt f a n w i).length ≤ i + 32 := by
 unfold outAt
 split
 ·rw [pre_len]; omega
 ·simp only [List.length_append, pre_len, List.length_drop, List.length_take]; omega
theorem outAt_end {f : List In4} {a n : Nat} {w : List In4} (h : a + n ≤ f.length) (hn : 0 < n) : outAt f a n w f.length = putL f a n w := by
 rw [outAt, if_neg (by omega), List.take_length, putL]
theorem over_ok [HasSpl G] (a e less i d : Nat) (z : Blk) (y : List V) (hi : i ≤ 5000) (hd : d < 4294967296) (hl : less ≤ d + 5000) (hle : i < a → e ≤ i + 1 + d → less ≤ d) :
  Big G (.F 207 [.int .i64 i, .int .i64 d, .ptr 0 0, .ptr 1 0, .ptr 2 0] [some (.cells [.int .i64 a]), some (.cells [.int .i64 e]), some (.cells [.int .i64 less]), some z, some (.cells y)] (.int .i64 (adjN a e less i d : Nat))
   [some (.cells [.int .i64 a]), some (.cells [.int .i64 e]), some (.cells [.int .i64 less]), some z, some (.cells y)]) := by
 refine F_of HasSpl.h_splice_Put_1 (Nat.le_of_ble_eq_true rfl) ?_
 have a1 : addI .i64 (i : Int) 1 = ((i + 1 : Nat) : Int) := add1' (by omega)
 have a2 : addI .i64 ((i + 1 : Nat) : Int) (d : Int) = ((i + 1 + d : Nat) : Int) := addN (by omega)
 by_cases h1 : i < a
 ·by_cases h2 : e ≤ i + 1 + d
  ·have s1 : subI .i64 (d : Int) (less : Int) = ((adjN a e less i d : Nat) : Int) := by
    have := hle h1 h2
    rw [adjN, if_pos ⟨h1, h2⟩, subI64] <;> omega
   have h2' : ((e : Int) ≤ ((i + 1 + d : Nat) : Int)) = True := eq_true (by omega)
   simp [h1, a1, a2, h2', s1, -Int.natCast_add]
  ·have s1 : adjN a e less i d = d := by rw [adjN, if_neg (by omega)]
   have h2' : ((e : Int) ≤ ((i + 1 + d : Nat) : Int)) = False := eq_false (by omega)
   simp [h1, a1, a2, h2', s1, -Int.natCast_add]
 ·have s1 : adjN a e less i d = d := by rw [adjN, if_neg (by omega)]
  simp [h1, s1]
theorem Put_ok [HasIns G] [HasCheck G] [HasWRight G] [HasSpl G] (f w : List In4) (a n : Nat) (hf : f.length ≤ maxLen) (hw : w.length ≤ maxLen) (hk : ∀ x ∈ f, x.k < 4294967296) (hkw : ∀ x ∈ w, x.k < 4294967296) (h : okPut f a n w = true) :
  FP G 208 [FL f, .int .i64 a, .int .i64 n, FL w] (.tup [.vs (IL (putL f a n w)) .no, .int .i64 0]) := by
 refine FP_of HasSpl.h_splice_Put (Nat.le_of_ble_eq_true rfl) ?_
 have hfr := Free_ok (G := G) f a n hf hk
 have hwr := WRight_ok (G := G) w hw hkw
 simp only [okPut, Bool.and_eq_true, decide_eq_true_eq] at h
 obtain ⟨⟨h1, h2⟩, h3⟩ := h
 rw [h1] at hfr
 rw [h2] at hwr
 simp only [freeZ, freeR, inB, Bool.and_eq_true, decide_eq_true_eq] at h1
 obtain ⟨hs, ⟨_, i2, i3, i4⟩, hfn⟩ := h1
 simp only [Int.toNat_natCast] at hfn
 have hlen := sound_le hs
 have hw32 : w.length ≤ 32 := by simp only [winB, Bool.and_eq_true, decide_eq_true_eq] at h2; exact h2.1
 have hbd : a + n ≤ f.length := by omega
 have h3' : ((n : Int) < (w.length : Int)) = False := eq_false (by omega)
 have aa : addI .i64 (a : Int) (n : Int) = ((a + n : Nat) : Int) := addN (by omega)
 have ss : subI .i64 (n : Int) (w.length : Int) = ((n - w.length : Nat) : Int) := by rw [subI64] <;> omega
 simp only [FL] at hfr hwr
 simp [FL]
 refine callP_of hfr ?_
 simp
 refine callP_of hwr ?_
 simp [h3', aa, ss, -Int.natCast_add]
 obtain ⟨T, hT⟩ : ∃ T : Nat → List In4, ∀ j, T j = outAt f a n w j := ⟨_, fun _ => rfl⟩
 have hT0 : T 0 = [] := by rw [hT, outAt, if_pos (by omega)]; rfl
 refine W_up f.length (fun i => [(3, FL w), (5, .ptr 0 0), (10, .ptr 1 0), (12, .fn 207 [.ptr 0 0, .ptr 1 0, .ptr 2 0]), (13, .vs (IL (T i)) (.own 3)), (40, FL f), (41, .int .i64 f.length), (42, .int .i64 i)])
  (fun i => [some (.cells [.int .i64 a]), some (.cells [.int .i64 ((a + n : Nat) : Int)]), some (.cells [.int .i64 ((n - w.length : Nat) : Int)]), some (.zone (T i).length)]) (fun _ => True) ?_ ?_
 ·simp [keep_cl, trunc, FL, hT0]
 intro i hi _
 by_cases hlt : i < f.length
 ·have hTl : (T i).length ≤ i + 32 := by rw [hT]; exact outAt_len hi hw32
  obtain ⟨x, hfx⟩ : ∃ x, x = f[i] := ⟨_, rfl⟩
  have hgg := FL_get hlt
  rw [← hfx] at hgg
  have hfx := hfx.symm
  have hg : f[i]? = some x := by rw [List.getElem?_eq_getElem hlt, hfx]
  have hD : f.getD i RET = x := by rw [List.getD, hg]; rfl
  have hxm : x ∈ f := hfx ▸ List.getElem_mem hlt
  have hkk := hk x hxm
  have hbo := sound_br hs hg
  have hcs : x.cs = [.int .i64 x.op, .int .i64 x.jt, .int .i64 x.jf, .int .u32 (x.k : Int)] := rfl
  have hbr := Branch_ok (G := G) x
  simp [IV, hcs] at hbr
  have hend : ((a : Int) ≤ (i : Int)) = (a ≤ i) := propext (by omega)
  by_cases hia : i = a
  ·have e1 : ((i : Int) == (a : Int)) = true := by simp [hia]
   have hTs : T (i + 1) = T i ++ w := by
    rw [hT, hT, outAt, outAt, if_neg (by omega), if_pos (by omega), hia]
    rw [List.drop_eq_nil_of_le (by rw [List.length_take]; omega)]; simp
   have hTl2 : (T (i + 1)).length = (T i).length + w.length := by rw [hTs]; simp
   have hE : ((i : Int) < ((a + n : Nat) : Int)) = True := eq_true (by omega)
   have hG : ((a : Int) ≤ (i : Int)) = True := eq_true (by omega)
   have hap : IL (T i) ++ IL w = IL (T (i + 1)) := by rw [IL_append, hTs]
   by_cases hw0 : w = []
   ·subst hw0
    have hTe : T (i + 1) = T i := by rw [hTs]; simp
    simp (disch := omega) [ltT, FL, hgg, hfx, hcs, e1, hE, hG, hTe, hlt, add1', keep_cl, trunc, -Int.natCast_add]
   ·simp (disch := omega) [ltT, FL, hgg, hfx, hcs, e1, hE, hG, IL_eq_nil, hw0, leTn, hap, hTl2, hlt, add1', keep_cl, trunc, -Int.natCast_add]
  have e1 : ((i : Int) == (a : Int)) = false := beqF (by omega)
  by_cases hmid : a ≤ i ∧ i < a + n
  ·have hTe : T (i + 1) = T i := by
    rw [hT, hT, outAt, outAt, if_neg (by omega), if_neg (by omega)]
    rw [List.drop_eq_nil_of_le (by rw [List.length_take]; omega), List.drop_eq_nil_of_le (by rw [List.length_take]; omega)]
   have hE : ((i : Int) < ((a + n : Nat) : Int)) = True := eq_true (by omega)
   have hG : ((a : Int) ≤ (i : Int)) = True := eq_true (by omega)
   simp (disch := omega) [ltT, FL, hgg, hfx, hcs, e1, hE, hG, hTe, hlt, add1', keep_cl, trunc, -Int.natCast_add]
  have hTs : T (i + 1) = T i ++ [putI a (a + n) (n - w.length) i x] := by
   rw [hT, hT]
   by_cases hlo : i < a
   ·rw [outAt, outAt, if_pos (by omega), if_pos (by omega), pre_succ, hD]
   ·have hadj : ∀ d, adjN a (a + n) (n - w.length) i d = d := fun d => by rw [adjN, if_neg (by omega)]
    have hpx : putI a (a + n) (n - w.length) i x = x := by
     unfold putI
     simp only [hadj]
     obtain ⟨op, jt, jf, k⟩ := x
     by_cases h5 : op = 5
     ·simp [h5]
     ·cases hbx : isBr op
      ·simp [h5]
      ·obtain ⟨b1, b2, b3, b4⟩ := hbo hbx
       simp only at b1 b2 b3 b4
       simp [h5]; omega
    have hdr : (f.take (i + 1)).drop (a + n) = (f.take i).drop (a + n) ++ [x] := by
     rw [List.take_add_one, hg, Option.toList_some, List.drop_append_of_le_length (by rw [List.length_take]; omega)]
    rw [hpx, outAt, outAt, if_neg (by omega), hdr]
    by_cases hia2 : i ≤ a
    ·omega
    ·rw [if_neg hia2, ← List.append_assoc]
  have hTl2 : (T (i + 1)).length = (T i).length + 1 := by rw [hTs]; simp
  have ho : ∀ d : Nat, d < 4294967296 → _ := fun d hd => over_ok (G := G) a (a + n) (n - w.length) i d (.zone (T i).length) x.cs (by omega) hd (by omega) (fun h1 h2 => by omega)
  have hadl : ∀ d : Nat, adjN a (a + n) (n - w.length) i d ≤ d := fun d => by unfold adjN; split <;> omega
  have hsn : ∀ y : In4, y = putI a (a + n) (n - w.length) i x → IL (T i) ++ [y.cs] = IL (T (i + 1)) := fun y hy => by rw [hTs, hy]; exact IL_snoc _ _
  by_cases hai : a ≤ i
  ·have hG : ((a : Int) ≤ (i : Int)) = True := eq_true (by omega)
   have hE : ((i : Int) < ((a + n : Nat) : Int)) = False := eq_false (by omega)
   by_cases h5 : x.op = 5
   ·have b5 : (x.op == 5) = true := by simp [h5]
    have hc := convI64 x.k hkk
    have hov := ho x.k hkk
    have hc2 : convI .u32 ((adjN a (a + n) (n - w.length) i x.k : Nat) : Int) = ((adjN a (a + n) (n - w.length) i x.k : Nat) : Int) := by unfold convI; exact wrap_nat32 (by have := hadl x.k; omega)
    have hap := hsn ⟨x.op, x.jt, x.jf, adjN a (a + n) (n - w.length) i x.k⟩ (by simp [putI, h5])
    simp only [In4.cs] at hov hap
    simp (disch := omega) [ltT, FL, hgg, hfx, hcs, e1, hG, hE, b5, hc, -Int.natCast_add]
    refine callV_of hov (by simp) ?_
    simp (disch := omega) [trunc, hc2, leTn, hap, hTl2, hlt, add1', keep_cl, -Int.natCast_add]
   have b5 : (x.op == 5) = false := beqF h5
   simp (disch := omega) [ltT, FL, hgg, hfx, hcs, e1, hG, hE, b5, -Int.natCast_add]
   refine callP_of hbr ?_
   cases hbx : isBr x.op
   ·have hap := hsn x (by simp [putI, h5, hbx])
    simp only [In4.cs] at hap
    simp (disch := omega) [leTn, hap, hTl2, hlt, add1', keep_cl, trunc, -Int.natCast_add]
   ·obtain ⟨b1, b2, b3, b4⟩ := hbo hbx
    have hov := ho x.jt.toNat (by omega)
    have hov2 := ho x.jf.toNat (by omega)
    have hap := hsn ⟨x.op, (adjN a (a + n) (n - w.length) i x.jt.toNat : Nat), (adjN a (a + n) (n - w.length) i x.jf.toNat : Nat), x.k⟩ (by simp [putI, h5, hbx])
    have j1 : ((x.jt.toNat : Nat) : Int) = x.jt := by omega
    have j2 : ((x.jf.toNat : Nat) : Int) = x.jf := by omega
    simp only [In4.cs, j1, j2] at hov hov2 hap
    simp
    refine callV_of hov (by simp [trunc]) ?_
    simp [trunc]
    refine callV_of hov2 (by simp [trunc]) ?_
    simp (disch := omega) [trunc, leTn, hap, hTl2, hlt, add1', keep_cl, -Int.natCast_add]
    omega
  ·have hG : ((a : Int) ≤ (i : Int)) = False := eq_false (by omega)
   by_cases h5 : x.op = 5
   ·have b5 : (x.op == 5) = true := by simp [h5]
    have hc := convI64 x.k hkk
    have hov := ho x.k hkk
    have hc2 : convI .u32 ((adjN a (a + n) (n - w.length) i x.k : Nat) : Int) = ((adjN a (a + n) (n - w.length) i x.k : Nat) : Int) := by unfold convI; exact wrap_nat32 (by have := hadl x.k; omega)
    have hap := hsn ⟨x.op, x.jt, x.jf, adjN a (a + n) (n - w.length) i x.k⟩ (by simp [putI, h5])
    simp only [In4.cs] at hov hap
    simp (disch := omega) [ltT, FL, hgg, hfx, hcs, e1, hG, b5, hc, -Int.natCast_add]
    refine callV_of hov (by simp) ?_
    simp (disch := omega) [trunc, hc2, leTn, hap, hTl2, hlt, add1', keep_cl, -Int.natCast_add]
   have b5 : (x.op == 5) = false := beqF h5
   simp (disch := omega) [ltT, FL, hgg, hfx, hcs, e1, hG, b5, -Int.natCast_add]
   refine callP_of hbr ?_
   cases hbx : isBr x.op
   ·have hap := hsn x (by simp [putI, h5, hbx])
    simp only [In4.cs] at hap
    simp (disch := omega) [leTn, hap, hTl2, hlt, add1', keep_cl, trunc, -Int.natCast_add]
   ·obtain ⟨b1, b2, b3, b4⟩ := hbo hbx
    have hov := ho x.jt.toNat (by omega)
    have hov2 := ho x.jf.toNat (by omega)
    have hap := hsn ⟨x.op, (adjN a (a + n) (n - w.length) i x.jt.toNat : Nat), (adjN a (a + n) (n - w.length) i x.jf.toNat : Nat), x.k⟩ (by simp [putI, h5, hbx])
    have j1 : ((x.jt.toNat : Nat) : Int) = x.jt := by omega
    have j2 : ((x.jf.toNat : Nat) : Int) = x.jf := by omega
    simp only [In4.cs, j1, j2] at hov hov2 hap
    simp
    refine callV_of hov (by simp [trunc]) ?_
    simp [trunc]
    refine callV_of hov2 (by simp [trunc]) ?_
    simp (disch := omega) [trunc, leTn, hap, hTl2, hlt, add1', keep_cl, -Int.natCast_add]
    omega
 ·have hne : i = f.length := by omega
  subst hne
  have hTe : T f.length = putL f a n w := by rw [hT, outAt_end hbd (by omega)]
  simp [hTe]
end Go.Ev
/- A filter's free pieces: splice.Pieces, hurdleref22.Pieces. -/
namespace Go.Ev
open Go Go.RowKit
variable {G : Tbl}
set_option maxRecDepth 10000
set_option maxHeartbeats 2000000
set_option linter.unusedSimpArgs false
set_option linter.unusedVariables false
abbrev Pc := Nat × Nat
def rowsV (l : List Pc) : List (List V) := l.map fun p => [.int .i64 (p.1 : Int), .int .i64 (p.2 : Int)]
@[simp] theorem rowsV_length (l : List Pc) : (rowsV l).length = l.length := by simp [rowsV]
@[simp] theorem rowsV_nil : rowsV [] = [] := rfl
@[simp] theorem rowsV_snoc (l : List Pc) (a m : Nat) : rowsV l ++ [[V.int .i64 (a : Int), .int .i64 (m : Int)]] = rowsV (l ++ [(a, m)]) := by simp [rowsV]
@[simp] theorem rowsV_get (l : List Pc) (i : Nat) : (rowsV l)[i]? = (l[i]?).map fun p => [.int .i64 (p.1 : Int), .int .i64 (p.2 : Int)] := by simp [rowsV]
@[simp] theorem rowsV_sz (l : List Pc) : (∀ f ∈ rowsV l, f.length = 2) = True := by
 simp only [eq_iff_iff, iff_true]
 intro f hf
 simp only [rowsV, List.mem_map] at hf
 obtain ⟨x, _, rfl⟩ := hf
 rfl
def rowsW (t : Tk) (l : List Pc) : List (List V) := l.map fun p => [.vs [[.int .i64 (p.1 : Int)], [.int .i64 (p.2 : Int)]] t]
@[simp] theorem rowsW_length (t : Tk) (l : List Pc) : (rowsW t l).length = l.length := by simp [rowsW]
@[simp] theorem rowsW_nil (t : Tk) : rowsW t [] = [] := rfl
@[simp] theorem rowsW_get (t : Tk) (l : List Pc) (i : Nat) : (rowsW t l)[i]? = (l[i]?).map fun p => [.vs [[.int .i64 (p.1 : Int)], [.int .i64 (p.2 : Int)]] t] := by simp [rowsW]
@[simp] theorem rowsW_sz (t : Tk) (l : List Pc) : (∀ f ∈ rowsW t l, f.length = 1) = True := by
 simp only [eq_iff_iff, iff_true]
 intro f hf
 simp only [rowsW, List.mem_map] at hf
 obtain ⟨x, _, rfl⟩ := hf
 rfl
end Go.Ev
/- Simplified code of Go functions, by scode.py. -/
namespace Go.Ev
/-- hurdle/hurdlelaw22.great -/
def c_hurdlelaw22_great : SFn := ⟨13,.seq (.region 0 [oS 4 (.mv (.c (.bool false)))]) (.seq (.region 0 [mM 5 0,oS 6 (.len false (.t 5)),oS 7 (.bin .gtr (.t 6) (kI 100)),mM 8 7,oF 9 8 (.mv (.t 1)),oF 10 8 (.len false (.t 9)),oF 11 8 (.bin .gtr (.t 10) (kI 100)),oS 12 (.pick (.t 8) (.c (.bool true)) (.t 11)),mM 4 12]) (.ret)),[.tmp 4]⟩
/-- hurdle/hurdlelaw22.knows -/
def c_hurdlelaw22_knows : SFn := ⟨58,.seq (.region 0 [oS 0 (.mv (.c (.bool false)))]) (.seq (.region 0 [oS 8 (.pcall 148 [.c (.str [110,101,103,10,110,101,103,10,114,101,116,97,10])]),mM 7 8,eX 9 0 7,eX 10 1 7,eX 11 2 7,mM 1 9,mM 2 10,mM 3 11]) (.seq (.keep [1,3]) (.seq (.region 0 [mM 13 1,oS 14 (.pcall 208 [.t 13,.c (.int .i64 0),.c (.int .i64 2),.c (.vs [] .full)]),mM 12 14,eX 15 0 12,eX 16 1 12,mM 4 15,mM 5 16]) (.seq (.keep [1,3,4,5]) (.seq (.region 0 [mM 17 1,oS 18 (.pcall 209 [.t 17,.c (.int .i64 4)]),mM 6 18]) (.seq (.region 0 [mM 19 3,oS 20 (.bin .eql (.t 19) (kI 0)),mM 21 20,oT 22 21 (.mv (.t 4)),oT 23 21 (.len false (.t 22)),oT 24 21 (.bin .eql (.t 23) (kI 1)),oS 25 (.pick (.t 21) (.t 24) (.c (.bool false))),mM 26 25,oT 27 26 (.mv (.t 4)),oT 28 26 (.iaddr 4 (.t 27) (kI 0)),oT 29 26 (.load 4 true false (.t 28)),oT 30 26 (.build ([.int .i64 0,.int .i64 0,.int .i64 0,.int .u32 0]) [(0,1,.c (.int .i64 22))]),oT 31 26 (.aeq ([.int,.int,.int,.int]) false (.t 29) (.t 30)),oS 32 (.pick (.t 26) (.t 31) (.c (.bool false))),mM 33 32,oT 34 33 (.mv (.t 5)),oT 35 33 (.bin .eql (.t 34) (kI 0)),oS 36 (.pick (.t 33) (.t 35) (.c (.bool false))),mM 37 36,oT 38 37 (.mv (.t 6)),oT 39 37 (.len false (.t 38)),oT 40 37 (.bin .eql (.t 39) (kI 1)),oS 41 (.pick (.t 37) (.t 40) (.c (.bool false))),mM 42 41,oT 43 42 (.mv (.t 6)),oT 44 42 (.iaddr 2 (.t 43) (kI 0)),oT 45 42 (.load 2 true false (.t 44)),oT 46 42 (.build ([.int .i64 0,.int .i64 0]) [(0,1,.c (.int .i64 0)),(1,1,.c (.int .i64 2))]),oT 47 42 (.aeq ([.int,
 .int]) false (.t 45) (.t 46)),oS 48 (.pick (.t 42) (.t 47) (.c (.bool false))),mM 49 48,oT 50 49 (.mv (.t 1)),oT 51 49 (.pcall 206 [.t 50,.c (.int .i64 0),.c (.int .i64 2)]),oS 52 (.pick (.t 49) (.t 51) (.c (.bool false))),mM 53 52,oT 54 53 (.mv (.t 1)),oT 55 53 (.pcall 206 [.t 54,.c (.int .i64 0),.c (.int .i64 3)]),oT 56 53 (.un .not (.t 55)),oS 57 (.pick (.t 53) (.t 56) (.c (.bool false))),mM 0 57]) (.ret))))))),[.tmp 0]⟩
/-- A table that holds these. -/
class HasL22 (G : Tbl) : Prop where
  h_hurdlelaw22_great : G 223 = some c_hurdlelaw22_great
end Go.Ev
/- The laws SpliceSound and SpliceSelf. -/
namespace Go.Ev
open Go Go.RowKit
variable {G : Tbl}
set_option maxRecDepth 10000
set_option maxHeartbeats 2000000
set_option linter.unusedSimpArgs false
set_option linter.unusedVariables false
theorem okAll_of : ∀ {f : List In4}, (∀ i x, f[i]? = some x → oneB x (f.length - 1 - i) = true) → okAll f = true
 | [], _ => rfl
 | x :: f, h => by
  rw [okAll, Bool.and_eq_true]
  refine ⟨by have := h 0 x rfl; simpa using this, okAll_of fun i y hy => ?_⟩
  have := h (i + 1) y (by simpa using hy)
  rw [← this]; congr 1; simp only [List.length_cons]; omega
theorem right_put {x : In4} (a e less i : Nat) (h : rightI x = true) (hr : ruleB x = true) : rightI (putI a e less i x) = true ∧ ruleB (putI a e less i x) = true := by
 have hbo := right_br h
 have hadl : ∀ d : Nat, adjN a e less i d ≤ d := fun d => by unfold adjN; split <;> omega
 unfold putI
 by_cases h5 : x.op = 5
 ·rw [if_pos h5]
  refine ⟨?_, ?_⟩
  ·have hs : shapeOf 5 = some (5, [106, 97], true, false) := by decide
   unfold rightI at h ⊢
   simp only [h5, hs, Bool.true_or, Bool.true_and] at h ⊢
   exact h
  ·simp [ruleB, h5]
 ·rw [if_neg h5]
  by_cases hb : isBr x.op = true
  ·rw [if_pos hb]
   obtain ⟨b1, b2, b3, b4⟩ := hbo hb
   have := hadl x.jt.toNat
   have := hadl x.jf.toNat
   refine ⟨?_, ?_⟩
   ·unfold rightI at h ⊢
    simp only at h ⊢
    split at h
    ·rename_i r hsr
     simp only [hsr, Bool.and_eq_true] at h ⊢
     refine ⟨h.1, ?_⟩
     have key : ∀ r ∈ shapeRows, isBr r.1 = r.2.2.2 := by decide
     obtain ⟨q1, q2⟩ := shape_some hsr
     have := key r q2
     rw [q1, hb] at this
     rw [← this]
     simp only [if_true, decide_eq_true_eq]
     omega
    ·cases h
   ·have hn : ∀ p ∈ [21, 37, 53, 69, 29, 45, 61, (77 : Int)], p ≠ 32 ∧ p ≠ 52 ∧ ¬ (p = 2 ∨ p = 3 ∨ p = 96 ∨ p = 97) ∧ ¬ (p = 100 ∨ p = 116) := by decide
    obtain ⟨n1, n2, n3, n4⟩ := hn _ (by simpa [isBr] using hb)
    simp only [ruleB, n1, n2, n3, n4, if_false]
  ·rw [if_neg hb]; exact ⟨h, hr⟩
theorem put_op (a e less i : Nat) (x : In4) : (putI a e less i x).op = x.op := by
 unfold putI
 split
 ·rfl
 ·split <;> rfl
theorem plain_one {x : In4} (h : plainW x = true) (left : Nat) : oneB x left = true := by
 simp only [plainW, Bool.and_eq_true] at h
 rw [one_plain h.1.1, h.1.2, h.2]; rfl
theorem win_mem {w : List In4} (h : winB w = true) : ∀ x ∈ w, plainW x = true := by
 simp only [winB, Bool.and_eq_true, List.all_eq_true] at h
 exact h.2
theorem free_last {f : List In4} {a n : Nat} (hs : soundF f = true) (hf : freeN f a n = true) (hn : 0 < n) (hbd : a + n ≤ f.length) : a + n < f.length := by
 by_cases h : a + n < f.length
 ·exact h
 ·exfalso
  have hg : f[a + n - 1]? = some (f[a + n - 1]'(by omega)) := List.getElem?_eq_getElem (by omega)
  obtain ⟨_, h2, _⟩ := sound_at hs hg
  have hm : f[a + n - 1]'(by omega) ∈ (f.drop a).take n := by
   refine List.mem_of_getElem? (i := n - 1) ?_
   rw [List.getElem?_take, if_pos (by omega), List.getElem?_drop, show a + (n - 1) = a + n - 1 by omega]
   exact hg
  simp only [freeN, Bool.and_eq_true] at hf
  have hp := win_mem hf.1 _ hm
  simp only [plainW, Bool.and_eq_true] at hp
  have := h2 (goesOn_not hp.1.1).2.2
  omega
theorem no_hit {f : List In4} {a n : Nat} (hf : freeN f a n = true) {i : Nat} {x : In4} (hg : f[i]? = some x) {t : Nat} (h1 : a < t) (h2 : t < a + n) : jumpB x i t = false := by
 simp only [freeN, Bool.and_eq_true, noHit, List.all_eq_true, List.mem_range, Bool.not_eq_true'] at hf
 have := hf.2 (t - a - 1) (by omega)
 rw [show a + 1 + (t - a - 1) = t by omega, hitB, ← Bool.not_eq_true, List.any_eq_true] at this
 rw [← Bool.not_eq_true]
 intro h
 refine this ⟨i, List.mem_range.2 (List.getElem?_eq_some_iff.1 hg).1, ?_⟩
 rw [List.getD, hg]; exact h
theorem putL_len {f w : List In4} {a n : Nat} (hbd : a + n ≤ f.length) : (putL f a n w).length = f.length - n + w.length := by
 simp only [putL, List.length_append, pre_len, List.length_drop]; omega
theorem put_sound {f w : List In4} {a n : Nat} (hs : soundF f = true) (hf : freeN f a n = true) (hn : 0 < n) (hbd : a + n ≤ f.length) (hw : winB w = true) (hwn : w.length ≤ n) : soundF (putL f a n w) = true := by
 have hlast := free_last hs hf hn hbd
 have hL := putL_len (w := w) hbd
 have hl := sound_le hs
 have h1 : okAll (putL f a n w) = true := by
  refine okAll_of fun i x hx => ?_
  rw [hL]
  by_cases hia : i < a
  ·rw [putL, List.append_assoc, List.getElem?_append_left (by rw [pre_len]; exact hia)] at hx
   have hg : f[i]? = some (f[i]'(by omega)) := List.getElem?_eq_getElem (by omega)
   obtain ⟨y, hy⟩ : ∃ y, y = f[i]'(by omega) := ⟨_, rfl⟩
   rw [← hy] at hg
   have hx2 : x = putI a (a + n) (n - w.length) i y := by
    rw [pre, List.getElem?_map, List.getElem?_range hia] at hx
    simp only [Option.map_some, Option.some.injEq] at hx
    rw [← hx, List.getD, hg]; rfl
   subst hx2
   have ho := (sound_at hs hg).1
   simp only [oneB, Bool.and_eq_true] at ho
   obtain ⟨⟨⟨o1, o2⟩, o3⟩, o4⟩ := ho
   obtain ⟨r1, r2⟩ := right_put a (a + n) (n - w.length) i o1 o2
   have hbo := right_br o1
   rw [oneB, put_op, r1, r2]
   have tgt : ∀ d : Nat, jumpB y i (i + 1 + d) = true → i + 1 + d < f.length → adjN a (a + n) (n - w.length) i d < f.length - n + w.length - 1 - i := by
    intro d hj hd
    have hnh : ¬ (a < i + 1 + d ∧ i + 1 + d < a + n) := fun ⟨h1, h2⟩ => by rw [no_hit hf hg h1 h2] at hj; cases hj
    unfold adjN
    split <;> omega
   by_cases h5 : y.op = 5
   ·have hb : isBr y.op = false := by rw [h5]; decide
    rw [if_pos h5, decide_eq_true_eq] at o3
    have := tgt y.k (by simp [jumpB, h5]) (by omega)
    simp only [hb, h5, if_true, Bool.true_and, Bool.false_eq_true, if_false, Bool.and_true, decide_eq_true_eq, show isBr 5 = false by decide]
    simp only [putI, h5, if_true]
    exact this
   ·cases hb : isBr y.op
    ·simp [h5]
    ·obtain ⟨b1, b2, b3, b4⟩ := hbo hb
     rw [if_pos hb, decide_eq_true_eq] at o4
     have t1 := tgt y.jt.toNat (by simp [jumpB, h5, hb]) (by omega)
     have t2 := tgt y.jf.toNat (by simp [jumpB, h5, hb]) (by omega)
     simp only [h5, hb, if_false, if_true, Bool.true_and, decide_eq_true_eq]
     simp only [putI, h5, hb, if_false, if_true]
     omega
  ·rw [putL, List.append_assoc, List.getElem?_append_right (by rw [pre_len]; omega), pre_len] at hx
   by_cases hiw : i - a < w.length
   ·rw [List.getElem?_append_left hiw] at hx
    exact plain_one (win_mem hw x (List.mem_of_getElem? hx)) _
   ·rw [List.getElem?_append_right (by omega), List.getElem?_drop] at hx
    have ho := (sound_at hs hx).1
    rw [← ho]; congr 1
    have := (List.getElem?_eq_some_iff.1 hx).1
    omega
 have h2 : endB (putL f a n w) = true := by
  have he : endB f = true := by simp only [soundF, Bool.and_eq_true] at hs; exact hs.2
  have hne : f.drop (a + n) ≠ [] := by
   intro h
   have := congrArg List.length h
   rw [List.length_drop] at this; simp at this; omega
  have : (putL f a n w).getLast? = f.getLast? := by
   rw [putL, List.getLast?_append, List.getLast?_drop, if_neg (by omega)]
   cases hq : f.getLast? with
   | none => simp only [endB, hq] at he; cases he
   | some z => rfl
  simp only [endB, this]
  exact he
 have h3 : (putL f a n w).length ≤ 4096 := by rw [hL]; omega
 simp [soundF, h1, h2, h3]
theorem great_ok [HasL22 G] (f w : List In4) : FP G 223 [FL f, FL w] (.bool (decide (100 < f.length) || decide (100 < w.length))) := by
 refine FP_of HasL22.h_hurdlelaw22_great (Nat.le_of_ble_eq_true rfl) ?_
 by_cases h : 100 < f.length
 ·have h1 : ((100 : Int) < (f.length : Int)) = True := eq_true (by omega)
  simp [FL, h, h1]
 ·have h1 : ((100 : Int) < (f.length : Int)) = False := eq_false (by omega)
  have h2 : ((100 : Int) < (w.length : Int)) = (100 < w.length) := propext (by omega)
  simp [FL, h, h1, h2]
theorem okPut_at {f w : List In4} {a n : Int} (h : okPut f a n w = true) : ∃ a' n' : Nat, a = a' ∧ n = n' ∧ soundF f = true ∧ freeN f a' n' = true ∧ 0 < n' ∧ a' + n' ≤ f.length ∧ winB w = true ∧ w.length ≤ n' := by
 simp only [okPut, freeZ, freeR, inB, Bool.and_eq_true, decide_eq_true_eq] at h
 obtain ⟨⟨⟨hs, ⟨h1, h2, h3, h4⟩, hf⟩, hw⟩, hl⟩ := h
 exact ⟨a.toNat, n.toNat, by omega, by omega, hs, hf, by omega, by omega, hw, by omega⟩
theorem put_k {f w : List In4} {a n : Nat} (hk : ∀ x ∈ f, x.k < 4294967296) (hkw : ∀ x ∈ w, x.k < 4294967296) : ∀ x ∈ putL f a n w, x.k < 4294967296 := by
 intro x hx
 simp only [putL, List.mem_append] at hx
 rcases hx with (hx | hx) | hx
 ·simp only [pre, List.mem_map, List.mem_range] at hx
  obtain ⟨i, hi, rfl⟩ := hx
  have hy : (f.getD i RET).k < 4294967296 := by
   rw [List.getD]
   cases hg : f[i]? with
   | none => decide
   | some z => exact hk z (List.mem_of_getElem? hg)
  generalize f.getD i RET = y at hy
  have hadl : ∀ d : Nat, adjN a (a + n) (n - w.length) i d ≤ d := fun d => by unfold adjN; split <;> omega
  unfold putI
  split
  ·have := hadl y.k; simp only; omega
  ·split <;> exact hy
 ·exact hkw x hx
 ·exact hk x (List.mem_of_mem_drop hx)
end Go.Ev
/- A filter in which another window was put, run: plain. -/
namespace Go.Ev
open Go Go.RowKit
set_option maxRecDepth 10000
set_option maxHeartbeats 4000000
set_option linter.unusedSimpArgs false
set_option linter.unusedVariables false
theorem plain_not {x : In4} (h : plainW x = true) : x.op ≠ 5 ∧ isBr x.op = false ∧ x.op ≠ 6 ∧ x.op ≠ 22 := by
 simp only [plainW, Bool.and_eq_true] at h
 obtain ⟨h1, h2, h3⟩ := goesOn_not h.1.1
 simp only [isEnd, decide_eq_false_iff_not, not_or] at h3
 exact ⟨h1, h2, h3.1, h3.2⟩
theorem plain_goes {x : In4} (h : plainW x = true) (s : St) : goes s x = 0 := by
 obtain ⟨h1, h2, _⟩ := plain_not h
 simp [goes, h1, h2]
theorem run_win (d : Da) (g : List In4) : ∀ (w : List In4) (s : St), (∀ x ∈ w, plainW x = true) →
  run d (w ++ g) s = if (runW d w s).2 < w.length then (0, (runW d w s).2 + 1) else ((run d g (runW d w s).1).1, w.length + (run d g (runW d w s).1).2)
 | [], s, _ => by simp [runW]
 | x :: w, s, h => by
  have hx := h x (by simp)
  obtain ⟨h5, hb, h6, h22⟩ := plain_not hx
  have ih := run_win d g w (stepS s x d).1 fun y hy => h y (by simp [hy])
  rw [List.cons_append, run_cons, if_neg h6, if_neg h22, plain_goes hx, List.drop_zero]
  by_cases hg : (stepS s x d).2 = true
  ·rw [if_pos hg, ih]
   simp only [runW, hg, if_true, List.length_cons]
   by_cases hl : (runW d w (stepS s x d).1).2 < w.length
   ·rw [if_pos hl, if_pos (by omega)]
   ·rw [if_neg hl, if_neg (by omega)]
    simp only [Prod.mk.injEq, true_and]
    omega
  ·rw [if_neg hg]
   simp only [runW, hg, if_false, List.length_cons, Bool.false_eq_true]
   rw [if_pos (by omega)]
theorem stop_divN {d : Da} : ∀ (w : List In4) (s : St), (∀ x ∈ w, plainW x = true) → (runW d w s).2 < w.length → 0 < divN w w.length
 | [], s, _, h => by simp [runW] at h
 | x :: w, s, hp, h => by
  rw [List.length_cons, divN_cons]
  by_cases hg : (stepS s x d).2 = true
  ·have := stop_divN (d := d) w (stepS s x d).1 (fun y hy => hp y (by simp [hy])) (by simp only [runW, hg, if_true, List.length_cons] at h; omega)
   omega
  ·have := (div_only (hp x (by simp)) (by simpa using hg)).1
   rw [if_pos this]; omega
theorem step_put (a e less i : Nat) (s : St) (x : In4) (d : Da) : stepS s (putI a e less i x) d = stepS s x d := by
 by_cases h5 : x.op = 5
 ·have e1 : aluT (5 : Int) = (0, false, false) := by decide
  have e2 : (putI a e less i x).op = 5 := by rw [put_op, h5]
  have o : ∀ y : In4, y.op = 5 → stepS s y d = (s, true) := fun y hy => by
   simp only [stepS, hy, e1, Bool.false_eq_true, if_false, stepO]
   simp
  rw [o _ e2, o _ h5]
 ·unfold putI
  rw [if_neg h5]
  split <;> rfl
theorem goes_put (a e less i : Nat) (s : St) {x : In4} (h : isEnd x.op = false) (hi : i < a) : goes s (putI a e less i x) = adjN a e less i (goes s x) ∨ goes s x = 0 ∧ goes s (putI a e less i x) = 0 := by
 have ho := put_op a e less i x
 by_cases h5 : x.op = 5
 ·left
  simp only [goes, ho, h5, if_true]
  simp [putI, h5]
 by_cases hb : isBr x.op = true
 ·left
  have hp : putI a e less i x = { x with jt := (adjN a e less i x.jt.toNat : Nat), jf := (adjN a e less i x.jf.toNat : Nat) } := by rw [putI, if_neg h5, if_pos hb]
  have ht : takesB s (putI a e less i x) = takesB s x := by rw [hp]; rfl
  simp only [goes, ho, if_neg h5, hb, if_true, ht]
  rw [hp]
  cases takesB s x <;> simp
 ·right
  simp [goes, ho, h5, hb]
theorem bh_one (g : List In4) : bh g [0] = nd g := by
 funext p
 simp [bh]
theorem putL_before {f w : List In4} {a n t : Nat} (ht : t < a) {x : In4} (hx : f[t]? = some x) : (putL f a n w).drop t = putI a (a + n) (n - w.length) t x :: (putL f a n w).drop (t + 1) := by
 have hg : (putL f a n w)[t]? = some (putI a (a + n) (n - w.length) t x) := by
  rw [putL, List.append_assoc, List.getElem?_append_left (by rw [pre_len]; exact ht), pre, List.getElem?_map, List.getElem?_range ht]
  simp [List.getD, hx]
 obtain ⟨hl, e⟩ := List.getElem?_eq_some_iff.1 hg
 rw [List.drop_eq_getElem_cons hl, e]
theorem putL_at (f w : List In4) (a n : Nat) : (putL f a n w).drop a = w ++ f.drop (a + n) := by
 rw [putL, List.append_assoc, List.drop_left' (pre_len _ _ _ _ _)]
theorem putL_behind {f w : List In4} {a n t : Nat} (hw : w.length ≤ n) (h : a + n ≤ t) : (putL f a n w).drop (t - (n - w.length)) = f.drop t := by
 have e : t - (n - w.length) = a + (w.length + (t - (a + n))) := by omega
 rw [e, ← List.drop_drop, putL_at, ← List.drop_drop, List.drop_left' rfl, List.drop_drop]
 congr 1
 omega
theorem asg_part {s : St} {d : Da} (hs : s.ok) {i : Nat} (hi : i < 18) : (asgL s d).getD i 0 = part s i := by
 have hl := hs.2.2.1
 match i, hi with
 | 0, _ => rfl
 | 1, _ => rfl
 | i + 2, h =>
  simp only [asgL, part]
  rw [List.getD_eq_getElem?_getD, List.getElem?_cons_succ, List.getElem?_cons_succ, List.getElem?_append_left (by omega), ← List.getD_eq_getElem?_getD]
theorem splice_run {f w : List In4} {a n live : Nat} {d : Da} (hs : soundF f = true) (hf : freeN f a n = true) (hn : 0 < n) (hbd : a + n ≤ f.length) (hw : winB w = true) (hwn : w.length ≤ n)
  (hk : ∀ x ∈ f, x.k < 4294967296) (hkw : ∀ x ∈ w, x.k < 4294967296) (hd : d.ok) (hlv : ∀ p < 18, nd (f.drop (a + n)) p = true → partB live p = true)
  (hdf : ∀ s : St, s.ok → diffR ((f.drop a).take n) w live s d = false) :
  ∀ (m t : Nat) (s : St), f.length - t ≤ m → t < f.length → (t ≤ a ∨ a + n ≤ t) → s.ok →
   (run d ((putL f a n w).drop (if t ≤ a then t else t - (n - w.length))) s).1 = (run d (f.drop t) s).1 ∧
   ((run d ((putL f a n w).drop (if t ≤ a then t else t - (n - w.length))) s).2 ≤ (run d (f.drop t) s).2 ∨ 0 < divN ((f.drop a).take n) n)
 | 0, t, s, h1, h2, _, _ => by omega
 | m + 1, t, s, h1, h2, h3, hso => by
  have hPl : ((f.drop a).take n).length = n := by rw [List.length_take, List.length_drop]; omega
  by_cases hta : t ≤ a
  case neg =>
   have h4 : a + n ≤ t := by omega
   rw [if_neg hta, putL_behind hwn h4]
   exact ⟨rfl, .inl (Nat.le_refl _)⟩
  rw [if_pos hta]
  by_cases hte : t = a
  ·subst hte
   have hp : ∀ x ∈ (f.drop t).take n, plainW x = true := by
    simp only [freeN, Bool.and_eq_true] at hf
    exact win_mem hf.1
   have e1 : f.drop t = (f.drop t).take n ++ f.drop (t + n) := by rw [← List.drop_drop, List.take_append_drop]
   have hD := hdf s hso
   have n1 := runW_le d ((f.drop t).take n) s
   have n2 := runW_le d w s
   have r1 := run_win d (f.drop (t + n)) ((f.drop t).take n) s hp
   rw [← e1, hPl] at r1
   rw [hPl] at n1
   rw [putL_at, r1, run_win d _ w s (win_mem hw)]
   unfold diffR at hD
   rw [hPl] at hD
   by_cases c1 : (runW d ((f.drop t).take n) s).2 < n
   ·have c2 : (runW d w s).2 < w.length := by
     rw [if_pos (.inl c1)] at hD
     simpa [c1] using hD
    rw [if_pos c1, if_pos c2]
    refine ⟨rfl, .inr ?_⟩
    have := stop_divN ((f.drop t).take n) s hp (by rw [hPl]; exact c1)
    rwa [hPl] at this
   ·have c2 : ¬ (runW d w s).2 < w.length := fun c2 => by
     rw [if_pos (.inr c2)] at hD
     simp [c1, c2] at hD
    rw [if_neg (by simp [c1, c2])] at hD
    rw [if_neg c1, if_neg c2]
    have o1 := runW_ok hd _ s hso (slice_k hk t n)
    have o2 := runW_ok hd _ s hso hkw
    have ag := run_agree d hd _ (f.drop (t + n)) (runW d w s).1 (runW d ((f.drop t).take n) s).1 (Nat.le_refl _) o2 o1 (fun x hx => hk x (List.mem_of_mem_drop hx)) fun p hp18 hnd => by
     have hb := hlv p hp18 hnd
     rcases Bool.eq_false_or_eq_true (diffAt live (asgL (runW d ((f.drop t).take n) s).1 d) (asgL (runW d w s).1 d) p) with h | h
     ·rw [partsD_yes hp18 h] at hD; cases hD
     ·rw [diffAt, hb, Bool.true_and, bne_eq_false_iff_eq, asg_part o1 hp18, asg_part o2 hp18] at h
      exact h.symm
    rw [ag]
    exact ⟨rfl, .inl (by simp only; omega)⟩
  ·have hlt : t < a := by omega
   obtain ⟨x, hx⟩ : ∃ x, f[t]? = some x := ⟨_, List.getElem?_eq_getElem h2⟩
   have e1 : f.drop t = x :: f.drop (t + 1) := by
    obtain ⟨hl, e⟩ := List.getElem?_eq_some_iff.1 hx
    rw [List.drop_eq_getElem_cons hl, e]
   rw [putL_before hlt hx, e1, run_cons, run_cons, put_op, step_put]
   by_cases h6 : x.op = 6
   ·have : (putI a (a + n) (n - w.length) t x).k = x.k := by
     have : isBr (6 : Int) = false := by decide
     simp [putI, h6, this]
    rw [if_pos h6, if_pos h6, this]
    exact ⟨rfl, .inl (Nat.le_refl _)⟩
   rw [if_neg h6, if_neg h6]
   by_cases h22 : x.op = 22
   ·rw [if_pos h22, if_pos h22]
    exact ⟨rfl, .inl (Nat.le_refl _)⟩
   rw [if_neg h22, if_neg h22]
   by_cases hg : (stepS s x d).2 = true
   case neg =>
    rw [if_neg hg, if_neg hg]
    exact ⟨rfl, .inl (Nat.le_refl _)⟩
   rw [if_pos hg, if_pos hg]
   have he : isEnd x.op = false := by simp [isEnd, h6, h22]
   have hgo := goes_offs he s
   have hT := sound_offs hs hx hgo
   obtain ⟨q, hq⟩ : ∃ q, q = goes s x := ⟨_, rfl⟩
   rw [← hq] at hgo hT ⊢
   have hout : t + 1 + q ≤ a ∨ a + n ≤ t + 1 + q := by
    by_cases hc : t + 1 + q ≤ a
    ·exact .inl hc
    ·by_cases hc2 : a + n ≤ t + 1 + q
     ·exact .inr hc2
     ·exfalso
      have nh := no_hit hf hx (t := t + 1 + q) (by omega) (by omega)
      unfold offs at hgo
      rw [he] at hgo
      simp only [Bool.false_eq_true, if_false] at hgo
      unfold jumpB at nh
      by_cases h5 : x.op = 5
      ·rw [if_pos h5, List.mem_singleton] at hgo
       rw [if_pos h5, hgo] at nh
       simp at nh
      ·rw [if_neg h5] at hgo nh
       cases hb : isBr x.op with
       | true =>
        rw [hb] at hgo nh
        simp only [if_true, List.mem_cons, List.not_mem_nil, or_false] at hgo
        simp only [Bool.true_and, Bool.or_eq_false_iff, decide_eq_false_iff_not] at nh
        omega
       | false =>
        rw [hb] at hgo
        simp only [Bool.false_eq_true, if_false, List.mem_singleton] at hgo
        omega
   have ih := splice_run hs hf hn hbd hw hwn hk hkw hd hlv hdf m (t + 1 + q) (stepS s x d).1 (by omega) hT hout (stepS_ok' hso (hk x (List.mem_of_getElem? hx)) hd)
   have hsh : t + 1 + goes s (putI a (a + n) (n - w.length) t x) = if t + 1 + q ≤ a then t + 1 + q else t + 1 + q - (n - w.length) := by
    rcases goes_put a (a + n) (n - w.length) t s he hlt with h | ⟨h, h'⟩
    ·rw [h, ← hq, adjN]
     rcases hout with hc | hc
     ·rw [if_pos hc, if_neg (by omega)]
     ·rw [if_pos ⟨hlt, hc⟩, if_neg (by omega)]; omega
    ·rw [h']
     rw [← hq] at h
     rw [h] at hout ⊢
     rw [if_pos (by omega)]
   rw [List.drop_drop, List.drop_drop, hsh]
   refine ⟨ih.1, ?_⟩
   rcases ih.2 with h | h
   ·left; simp only; omega
   ·exact .inr h
end Go.Ev
/- Simplified code of Go functions, by scode.py. -/
namespace Go.Ev
/-- hurdle/hurdlelaw22.SpliceMeans -/
def c_hurdlelaw22_SpliceMeans : SFn := ⟨125,.seq (.region 1 [oS 9 (.box 0 (.t 4)),oS 10 (.mv (.c (.bool false)))]) (.seq (.seq (.region 0 [mM 21 0,mM 22 3,oS 23 (.pcall 223 [.t 21,.t 22]),mM 24 23,oF 25 24 (.mv (.t 0)),oF 26 24 (.mv (.t 1)),oF 27 24 (.mv (.t 2)),oF 28 24 (.pcall 211 [.t 25,.t 26,.t 27]),oF 29 24 (.un .not (.t 28)),oS 30 (.pick (.t 24) (.c (.bool true)) (.t 29)),mM 31 30,oF 32 31 (.mv (.t 3)),oF 33 31 (.pcall 203 [.t 32]),oF 34 31 (.un .not (.t 33)),oS 35 (.pick (.t 31) (.c (.bool true)) (.t 34)),mM 36 35,oF 37 36 (.mv (.t 3)),oF 38 36 (.len false (.t 37)),oF 39 36 (.mv (.t 2)),oF 40 36 (.bin .gtr (.t 38) (.t 39)),oS 41 (.pick (.t 36) (.c (.bool true)) (.t 40))]) (.seq (.keep [0,1,2,3,9,41]) (.cond (.t 41) (.seq (.region 0 [oS 42 (.pcall 224 []),mM 10 42]) (.ret)) (.skip)))) (.seq (.keep [0,1,2,3,9]) (.seq (.region 0 [mM 44 0,mM 45 1,mM 46 2,oS 47 (.bin .add (.t 45) (.t 46)),oS 48 (.bin .sub (.t 47) (kI 1)),oS 49 (.pcall 172 [.t 44,.t 48]),mM 43 49,eX 50 0 43,eX 51 1 43,mM 11 50,mM 12 51]) (.seq (.keep [0,1,2,3,9,11,12]) (.seq (.region 1 [mM 53 0,mM 54 1,mM 55 1,mM 56 2,oS 57 (.bin .add (.t 55) (.t 56)),oS 58 (.slc 4 (.t 53) (some (.t 54)) (some (.t 57)) none),mM 59 3,mM 60 11,oS 61 (.pcall 312 [.t 58,.t 59,.t 60]),mM 52 61,eX 62 0 52,eX 63 1 52,oS 13 (.alloc 0 ([.int .i64 0] ++ rep 20 (.int .u32 0) ++ rep 7 (.int .u64 0))),oN (.store 28 (.t 13) (.t 62)),mM 14 63]) (.seq (.keep [0,1,2,3,9,12,13,14]) (.seq (.region 0 [mM 65 0,mM 66 1,mM 67 2,mM 68 3,oS 69 (.pcall 208 [.t 65,.t 66,.t 67,.t 68]),
 mM 64 69,eX 70 0 64,eX 71 1 64,mM 15 70,mM 16 71]) (.seq (.keep [0,1,2,9,12,13,14,15,16]) (.seq (.seq (.region 0 [mM 72 12,oS 73 (.bin .neq (.t 72) (kI 0)),mM 74 73,oF 75 74 (.mv (.t 14)),oF 76 74 (.bin .neq (.t 75) (kI 0)),oS 77 (.pick (.t 74) (.c (.bool true)) (.t 76)),mM 78 77,oF 79 78 (.mv (.t 16)),oF 80 78 (.bin .neq (.t 79) (kI 0)),oS 81 (.pick (.t 78) (.c (.bool true)) (.t 80)),mM 82 81,oF 83 82 (.mv (.t 15)),oF 84 82 (.pcall 188 [.t 83]),oF 85 82 (.un .not (.t 84)),oS 86 (.pick (.t 82) (.c (.bool true)) (.t 85))]) (.seq (.keep [0,1,2,9,13,15,86]) (.cond (.t 86) (.seq (.region 0 [oS 10 (.mv (.c (.bool false)))]) (.ret)) (.skip)))) (.seq (.keep [0,1,2,9,13,15]) (.seq (.seq (.region 0 [fA 87 0 13,lD 88 87,oS 89 (.bin .neq (.t 88) (kI 0))]) (.cond (.t 89) (.seq (.region 0 [oS 90 (.pcall 224 []),mM 10 90]) (.ret)) (.skip))) (.seq (.keep [0,1,2,9,15]) (.seq (.region 0 [mM 92 0,oS 93 (.load 9 true false (.t 9)),oS 94 (.pcall 234 [.t 92,.t 93]),mM 91 94,eX 95 0 91,eX 96 1 91,mM 17 95,mM 18 96]) (.seq (.keep [0,1,2,9,15,17,18]) (.seq (.region 0 [mM 98 15,oS 99 (.load 9 true false (.t 9)),oS 100 (.pcall 234 [.t 98,.t 99]),mM 97 100,eX 101 0 97,eX 102 1 97,mM 19 101,mM 20 102]) (.seq (.keep [0,1,2,17,18,19,20]) (.seq (.region 0 [mM 103 17,mM 104 19,oS 105 (.bin .eql (.t 103) (.t 104)),mM 106 105,oT 107 106 (.mv (.t 20)),oT 108 106 (.mv (.t 18)),oT 109 106 (.bin .leq (.t 107) (.t 108)),oT 110 106 (.mv (.t 109)),oF 111 110 (.mv (.t 0)),oF 112 110 (.mv (.t 1)),
 oF 113 110 (.mv (.t 1)),oF 114 110 (.mv (.t 2)),oF 115 110 (.bin .add (.t 113) (.t 114)),oF 116 110 (.slc 4 (.t 111) (some (.t 112)) (some (.t 115)) none),oF 117 110 (.mv (.t 2)),oF 118 110 (.pcall 305 [.t 116,.t 117]),oF 119 110 (.bin .gtr (.t 118) (kI 0)),oT 120 106 (.pick (.t 110) (.c (.bool true)) (.t 119)),oS 121 (.pick (.t 106) (.t 120) (.c (.bool false))),mM 122 121,oT 123 122 (.pcall 224 []),oS 124 (.pick (.t 122) (.t 123) (.c (.bool false))),mM 10 124]) (.ret)))))))))))))))))),[.tmp 10]⟩
/-- A table that holds these. -/
class HasL22m (G : Tbl) : Prop where
  h_hurdlelaw22_SpliceMeans : G 345 = some c_hurdlelaw22_SpliceMeans
end Go.Ev
/- The law SpliceMeans. -/
namespace Go.Ev
open Go Go.RowKit
variable {G : Tbl}
set_option maxRecDepth 10000
set_option maxHeartbeats 4000000
set_option linter.unusedSimpArgs false
set_option linter.unusedVariables false
theorem SpliceMeans_ok [HasWd G] [HasNeg G] [HasIns G] [HasCheck G] [HasData G] [HasWith G] [HasStep G] [HasTells G] [HasLive G] [HasWRight G] [HasSpl G] [HasWinRun G] [HasWinAsg G] [HasWinState G] [HasWinOf G] [HasAffApart G] [HasAffine G] [hBA : HasBitsA G] [HasSymNew G] [HasSym G] [HasSymApart G] [HasDecDf G] [HasDec G]
  [HasR2 G] [HasR5 G] [HasR5o G] [HasR17 G] [HasR22 G] [hR1 : HasR1 G] [HasR1n G] [HasR4 G] [HasR6s G] [HasR6 G] [HasR6r G] [HasR17d G] [HasL22 G] [HasL22m G]
  (hkn : FP G 224 [] (.bool true)) (f w : List In4) (a n : Int) (d : Da) (hf : f.length ≤ maxLen) (hg : w.length ≤ maxLen)
  (hk : ∀ x ∈ f, x.k < 4294967296) (hkw : ∀ x ∈ w, x.k < 4294967296) (hd : d.ok) :
  FP G 345 [FL f, .int .i64 a, .int .i64 n, FL w, DV d] (.bool true) := by
 refine FP_of HasL22m.h_hurdlelaw22_SpliceMeans (Nat.le_of_ble_eq_true rfl) ?_
 have hgr := great_ok (G := G) f w
 have dl := dcs_len hd
 have dt := List.take_of_length_le (i := 9) (l := d.cs) (by omega)
 have dn := dcs_nf d
 have dk := fun n => dcs_cl d n
 simp only [FL] at hgr
 simp [FL, DV, dn]
 refine callP_of hgr ?_
 by_cases hb : 100 < f.length ∨ 100 < w.length
 ·have hb' : (decide (100 < f.length) || decide (100 < w.length)) = true := by simpa using hb
  simp [hb']
  refine callP_of hkn ?_
  simp
 have hb' : (decide (100 < f.length) || decide (100 < w.length)) = false := by simpa using hb
 simp only [not_or, Nat.not_lt] at hb
 have hfr := FreeR_ok (G := G) f a n hf hk
 have hwr := Right17_ok (G := G) w (by omega) hkw
 simp only [FL] at hfr hwr
 simp [hb']
 refine callP_of hfr ?_
 cases hfz : freeZ f a n with
 | false =>
  simp
  refine callP_of hkn ?_
  simp
 | true =>
 simp
 refine callP_of hwr ?_
 cases hw : winB w with
 | false =>
  simp
  refine callP_of hkn ?_
  simp
 | true =>
 by_cases hwn : (w.length : Int) ≤ n
 case neg =>
  have h1 : (n < (w.length : Int)) = True := eq_true (by omega)
  simp [h1]
  refine callP_of hkn ?_
  simp
 have h1 : (n < (w.length : Int)) = False := eq_false (by omega)
 have hokp : okPut f a n w = true := by simp only [okPut, hfz, hw, Bool.true_and, decide_eq_true_eq]; exact hwn
 obtain ⟨a, n, rfl, rfl, hs, hfn, hn, hbd, _, hwn'⟩ := okPut_at hokp
 have hlast := free_last hs hfn hn hbd
 have hL := sound_le hs
 obtain ⟨x, hx⟩ : ∃ x, f[a + n - 1]? = some x := ⟨_, List.getElem?_eq_getElem (by omega)⟩
 have hbh := Behind_ok (G := G) f (a + n - 1) x hx hk hs
 have hpl : ∀ x ∈ (f.drop a).take n, plainW x = true := by
  simp only [freeN, Bool.and_eq_true] at hfn
  exact win_mem hfn.1
 have hpx : plainW x = true := hpl x (by
  refine List.mem_of_getElem? (i := n - 1) ?_
  rw [List.getElem?_take, if_pos (by omega), List.getElem?_drop, show a + (n - 1) = a + n - 1 by omega]
  exact hx)
 have hox : offs x = [0] := by
  obtain ⟨h5, hbr, h6, h22⟩ := plain_not hpx
  simp [offs, isEnd, h5, hbr, h6, h22]
 rw [hox, bh_one, show a + n - 1 + 1 = a + n by omega] at hbh
 obtain ⟨live, hlv⟩ : ∃ live, live = wordOf (nd (f.drop (a + n))) 18 := ⟨_, rfl⟩
 have hlv32 : live < 4294967296 := by rw [hlv]; exact Nat.lt_of_lt_of_le (wordOf_lt _ 18) (by decide)
 rw [← hlv] at hbh
 obtain ⟨P, hP⟩ : ∃ P, P = (f.drop a).take n := ⟨_, rfl⟩
 have hPl : P.length = n := by rw [hP, List.length_take, List.length_drop]; omega
 have hPk : ∀ x ∈ P, x.k < 4294967296 := by rw [hP]; exact slice_k hk a n
 have hPw : winB P = true := by
  rw [hP]
  simp only [freeN, Bool.and_eq_true] at hfn
  exact hfn.1
 have hdc := Decide_ok (G := G) P w live (by simp only [maxLen]; omega) hg hPk hkw hlv32
 have hput := Put_ok (G := G) f w a n hf hg hk hkw hokp
 obtain ⟨g, hgp⟩ : ∃ g, g = putL f a n w := ⟨_, rfl⟩
 have hgl : g.length ≤ 100 := by rw [hgp, putL_len hbd]; omega
 have hgk : ∀ x ∈ g, x.k < 4294967296 := by rw [hgp]; exact put_k hk hkw
 have hgs : soundF g = true := by rw [hgp]; exact put_sound hs hfn hn hbd hw hwn'
 have hso := SoundR_ok (G := G) g (by simp only [maxLen]; omega) hgk
 have hrf := RunR_ok (G := G) f d hk hs hd
 have hrg := RunR_ok (G := G) g d hgk hgs hd
 have hdv := Divides_ok (G := G) P n (by omega) (by omega)
 rw [← hgp] at hput
 rw [hPw, hw, if_pos (show (true && true) = true from rfl)] at hdc
 rw [hgs] at hso
 obtain ⟨c, B, hc, hB, kB, lB, B1⟩ : ∃ (c : Int) (B : List V), (decR P w live).1 = c ∧ B = ansC (decR P w live).1 (decR P w live).2 ∧ (∀ n, clL n B = B) ∧ B.length = 28 ∧ B.take 1 = [.int .i64 c] :=
  ⟨_, _, rfl, rfl, fun n => ansC_cl _ _ n, decR_len P w live, ansC_hd _ _⟩
 have tB : B.take 28 = B := List.take_of_length_le (by omega)
 have dB : B.drop 28 = [] := List.drop_eq_nil_of_le (by omega)
 rw [← hB] at hdc
 obtain ⟨A, hA⟩ : ∃ A, A = ansC 0 none := ⟨_, rfl⟩
 have lA : A.length = 28 := by rw [hA]; rfl
 have hA0z : V.int .i64 0 :: (cnats .u32 (zeros 20) ++ cnats .u64 (zeros 7)) = A := by rw [hA]; rfl
 have tA : A.take 28 = A := List.take_of_length_le (by omega)
 have dA : A.drop 28 = [] := List.drop_eq_nil_of_le (by omega)
 have kA : ∀ n, clL n A = A := fun n => by rw [hA]; exact ansC_cl _ _ n
 have e1 : addI .i64 (a : Int) (n : Int) = ((a + n : Nat) : Int) := addN (by omega)
 have e2 : subI .i64 ((a + n : Nat) : Int) 1 = ((a + n - 1 : Nat) : Int) := by rw [subI64] <;> omega
 have hslice : ((IL f).drop a).take n = IL P := by rw [IL_drop, IL_take, hP]
 have hslice2 : ((IL f).take (a + n)).drop a = IL P := by rw [IL_take, IL_drop, hP, List.drop_take]; congr 2; omega
 have fact : c = 0 → (run d g St0).1 = (run d f St0).1 ∧ ((run d g St0).2 ≤ (run d f St0).2 ∨ 0 < divN P n) := fun h0 => by
  have hdf : ∀ s : St, s.ok → diffR P w live s d = false := fun s hso => by
   rcases dec_tells (live := live) hPw hw with ⟨_, h⟩ | ⟨r, h, _⟩ | ⟨h, _⟩
   ·exact same_diff hPk hkw hso hd hPw hw h
   ·rw [← hc, h] at h0; cases h0
   ·rw [← hc, h] at h0; cases h0
  have := splice_run (live := live) hs hfn hn hbd hw hwn' hk hkw hd (fun p hp hnd => by
   rw [partB, bit_mod, hlv, wordOf_bit]; simp [hp, hnd]) (by rw [← hP]; exact hdf) f.length 0 St0 (by omega) (by omega) (.inl (Nat.zero_le _)) st0_ok
  rw [if_pos (Nat.zero_le _), List.drop_zero, List.drop_zero, ← hgp, ← hP] at this
  exact this
 simp only [FL, DV] at hbh hdc hput hso hrf hrg hdv
 simp [h1, e1, e2, -Int.natCast_add]
 refine callP_of hbh ?_
 have hgl' : f.length ≤ 100 := hb.1
 simp (disch := omega) [e1, hA0z, leTn, hslice, hslice2, keep_cl, -Int.natCast_add]
 refine callP_of hdc ?_
 simp [hA0z, lA, tA, dA, kA, lB, tB, dB, kB, keep_cl]
 refine callP_of hput ?_
 simp
 refine callP_of hso ?_
 simp [lB, tB, dB, kB, B1, keep_cl]
 by_cases h0 : c = 0
 case neg =>
  simp [bneT h0, h0]
  refine callP_of hkn ?_
  simp
 subst h0
 obtain ⟨f1, f2⟩ := fact rfl
 simp [dl, dt, dk, dn]
 refine callP_of hrf ?_
 simp [dl, dt, dk, dn]
 refine callP_of hrg ?_
 rw [f1]
 generalize (run d f St0).2 = r1 at *
 generalize (run d g St0).2 = r2 at *
 by_cases hle : r2 ≤ r1
 ·have hi : ((r2 : Int) ≤ (r1 : Int)) = True := eq_true (by omega)
  simp [hi]
  refine callP_of hkn ?_
  simp
 ·have hi : ((r2 : Int) ≤ (r1 : Int)) = False := eq_false (by omega)
  have hpos : 0 < divN P n := by
   rcases f2 with h | h
   ·exact absurd h hle
   ·exact h
  have hpi : ((0 : Int) < (divN P n : Int)) = True := eq_true (by omega)
  simp (disch := omega) [hi, e1, leTn, hslice, hslice2, -Int.natCast_add]
  refine callP_of hdv ?_
  simp [hpos]
  refine callP_of hkn ?_
  simp
end Go.Ev
