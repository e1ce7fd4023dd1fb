/- decide.Decide. -/
import Derived.Test.YtkodfphojbfieaaDoorWinKW
import Derived.KernelRfl
set_option linter.unusedVariables false
set_option linter.unusedSimpArgs false
namespace Go.Ev
open Go Go.RowKit
variable {G : Tbl}
set_option maxRecDepth 10000
set_option maxHeartbeats 4000000
set_option linter.unusedSimpArgs false
set_option linter.unusedVariables false
noncomputable def decR (v w : List In4) (live : Nat) : Int × Option (List Nat) :=
  if (winB v && winB w) = true then
    if sameB (winV [] v).p (winV (winV [] v).L w).p (winV [] v).st (winV (winV [] v).L w).st live = true then (0, none)
    else match (triesL (winV (winV [] v).L w).L (winV [] v).p (winV (winV [] v).L w).p live).find? fun r => diffR v w live (stO r) (ofW (r.drop 18)) with
      | some r => (1, some r)
      | none => (2, none)
  else (0, none)
def newH5 (a b c d e : List V) : Heap := [some (.cells a), some (.cells b), some (.cells c), some (.cells d), some (.cells e), some (.map []), some (.cells [.vs [] (.own 7), .mp 5]), some (.zone 0)]
theorem newH5_bk {a b c d e : List V} (ha : ∀ n, clL n a = a) (hb : ∀ n, clL n b = b) (hc : ∀ n, clL n c = c) (hd : ∀ n, clL n d = d) (he : ∀ n, clL n e = e) : Bk (newH5 a b c d e) 6 7 5 [] := by
  refine ⟨rfl, rfl, rfl, fun n hn => ?_, fun a h => (by cases h), by decide⟩
  simp only [newH5, List.length_cons, List.length_nil] at hn
  simp [newH5, Blk.cl, ha, hb, hc, hd, he, clL, V.cl, Tk.cl, show 7 < n by omega, show 5 < n by omega]
theorem New5_ok [HasSymNew G] (a b c d e : List V) : Big G (.F 256 [] [some (.cells a), some (.cells b), some (.cells c), some (.cells d), some (.cells e)] (.ptr 6 0) [some (.cells a), some (.cells b), some (.cells c), some (.cells d), some (.cells e), some (.map []), some (.cells [.vs [] .full, .mp 5])]) := by
  refine F_of HasSymNew.h_sym_New (Nat.le_of_ble_eq_true rfl) ?_
  simp
section
variable {H : Heap} {b z m : Nat} {L : List Nd}
noncomputable def ofC (L : List Nd) (w : List In4) : List V := if winB w = true then vcs (winV L w).p (winV L w).st .no else vcs (List.replicate 18 0) [] .full
noncomputable def ofL (L : List Nd) (w : List In4) : List Nd := if winB w = true then (winV L w).L else L
theorem Of_any [HasWd G] [HasNeg G] [HasIns G] [HasCheck G] [HasWRight G] [HasAffine G] [HasBits G] [HasSym G] [HasWinOf G] (w : List In4) (h : Bk H b z m L) (hi : Inv L) (hs : L.length ≤ 800000) (hf : w.length ≤ maxLen) (hk : ∀ x ∈ w, x.k < 4294967296) :
    SF G 296 [.ptr b 0, FL w] H (.tup [.agg (ofC L w), .bool (winB w)]) (upd H b z m (ofL L w)) := by
  cases hw : winB w with
  | true =>
    have := Of_ok (G := G) w h hi hs hf hk hw
    simpa only [ofC, ofL, hw, if_true] using this
  | false =>
    have := Of_no (G := G) w h hf hk hw
    simpa only [ofC, ofL, hw, Bool.false_eq_true, if_false, h.upd_self] using this
theorem ofC_len (hi : Inv L) {w : List In4} (hk : ∀ x ∈ w, x.k < 4294967296) : (ofC L w).length = 19 := by
  unfold ofC
  split
  · exact vcs_len (winV_ok hi w hk).len
  · rfl
theorem ofC_cl (w : List In4) (n : Nat) : clL n (ofC L w) = ofC L w := by
  unfold ofC
  split <;> (rw [clL_eq_map, vcs]; simp [cints, Function.comp_def, V.cl, Tk.cl])
theorem ofL_inv (hi : Inv L) {w : List In4} (hk : ∀ x ∈ w, x.k < 4294967296) : Inv (ofL L w) := by
  unfold ofL
  split
  · exact (winV_ok hi w hk).ext.inv
  · exact hi
theorem ofL_len (hi : Inv L) {w : List In4} (hk : ∀ x ∈ w, x.k < 4294967296) : (ofL L w).length ≤ L.length + 114 := by
  unfold ofL
  split
  · rename_i hw
    have hw32 : w.length ≤ 32 := by simp only [winB, Bool.and_eq_true, decide_eq_true_eq] at hw; exact hw.1
    have := (winV_ok hi w hk).ext.len
    omega
  · omega
end
theorem ansC_len (c : Int) : (ansC c none).length = 28 := rfl
theorem ansC_cl (c : Int) (o : Option (List Nat)) (n : Nat) : clL n (ansC c o) = ansC c o := by cases o <;> simp [ansC, clL_eq_map, V.cl, St.cs, Da.cs, cnats, Function.comp_def]
theorem ansC_nf (c : Int) (o : Option (List Nat)) : (ansC c o).map V.nf1 = ansC c o := by cases o <;> simp [ansC, V.nf1, St.cs, Da.cs, cnats, Function.comp_def]
theorem ansC_take (c : Int) : (ansC c none).take 28 = ansC c none := List.take_of_length_le (by rw [ansC_len]; exact Nat.le_refl _)
theorem ansC_drop (c : Int) : (ansC c none).drop 28 = [] := List.drop_eq_nil_of_le (by rw [ansC_len]; exact Nat.le_refl _)
theorem Tries_F [HasDec G] (H : Heap) (b live : Nat) (X1 X2 : List V) (k1 : ∀ n, clL n X1 = X1) (k2 : ∀ n, clL n X2 = X2) (m1 : X1.map V.nf1 = X1) (m2 : X2.map V.nf1 = X2) :
    Big G (.F 311 [.ptr b 0, .agg X1, .agg X2, .int .u32 live] H (.fn 310 [.ptr (H.length + 3) 0, .ptr H.length 0, .ptr (H.length + 1) 0, .ptr (H.length + 2) 0])
      (H ++ [some (.cells [.ptr b 0]), some (.cells X1), some (.cells X2), some (.cells [.int .u32 live])])) := by
  refine F_of HasDec.h_decide_tries (Nat.le_of_ble_eq_true rfl) ?_
  simp [m1, m2, ap0, apk, set0, setk]
theorem Decide_ok [HasWd G] [HasNeg G] [HasIns G] [HasCheck G] [HasData G] [HasWith G] [HasStep G] [HasWRight G] [HasWinRun G] [HasWinAsg G] [HasWinState G] [HasWinOf G] [HasAffApart G] [HasAffine G] [hBA : HasBitsA G] [HasSymNew G] [HasSym G] [HasSymApart G] [HasDecDf G] [HasDec G]
    (v w : List In4) (live : Nat) (hf : v.length ≤ maxLen) (hg : w.length ≤ maxLen) (hk : ∀ x ∈ v, x.k < 4294967296) (hkw : ∀ x ∈ w, x.k < 4294967296) (hlv : live < 4294967296) :
    FP G 312 [FL v, FL w, .int .u32 live] (.tup [.agg (ansC (decR v w live).1 (decR v w live).2), .int .i64 (if (winB v && winB w) = true then 0 else 1)]) := by
  haveI : HasBits G := hBA.toHasBits
  refine FP_of HasDec.h_decide_Decide (Nat.le_of_ble_eq_true rfl) ?_
  obtain ⟨Z, hZ⟩ : ∃ Z : List V, Z = vcs (List.replicate 18 0) [] .full := ⟨_, rfl⟩
  have lZ : Z.length = 19 := by rw [hZ]; rfl
  have drop19 : Z.drop 19 = [] := List.drop_eq_nil_of_le (by omega)
  have hZz : [V.int .i64 0, .int .i64 0, .int .i64 0, .int .i64 0, .int .i64 0, .int .i64 0, .int .i64 0, .int .i64 0, .int .i64 0, .int .i64 0, .int .i64 0, .int .i64 0, .int .i64 0, .int .i64 0, .int .i64 0, .int .i64 0, .int .i64 0, .int .i64 0, .vs [] .full] = Z := by rw [hZ]; rfl
  obtain ⟨A0, hA0⟩ : ∃ A0 : List V, A0 = ansC 0 none := ⟨_, rfl⟩
  have hA0z : V.int .i64 0 :: (cnats .u32 (zeros 20) ++ cnats .u64 (zeros 7)) = A0 := by rw [hA0]; rfl
  have lA0 : A0.length = 28 := by rw [hA0]; rfl
  have kA0 : ∀ n, clL n A0 = A0 := fun n => by rw [hA0]; simp [ansC, clL_eq_map, V.cl, cnats, Function.comp_def]
  have hB := newH5_bk (a := [.vs (IL v) .no]) (b := [.vs (IL w) .no]) (c := [.int .u32 live]) (d := A0) (e := [.int .i64 0]) (fun n => by simp [clL, V.cl, Tk.cl]) (fun n => by simp [clL, V.cl, Tk.cl]) (fun n => by simp [clL, V.cl]) kA0 (fun n => by simp [clL, V.cl])
  obtain ⟨H0, hH0⟩ : ∃ H0, H0 = newH5 [.vs (IL v) .no] [.vs (IL w) .no] [.int .u32 live] A0 [.int .i64 0] := ⟨_, rfl⟩
  rw [← hH0] at hB
  have n0 : H0.length = 8 := by rw [hH0]; rfl
  have t0 : ∀ r, trunc 8 (H0 ++ r) = H0 := fun r => by have := hB.shut.back r; rwa [n0] at this
  have a8 : ∀ r : Heap, (H0 ++ r)[8]? = r[0]? := fun r => apn0 n0
  have a9 : ∀ r : Heap, (H0 ++ r)[9]? = r[1]? := fun r => apnk n0 1
  have b8 : ∀ (r : Heap) x, (H0 ++ r).set 8 x = H0 ++ r.set 0 x := fun r x => setn0 n0 x
  have b9 : ∀ (r : Heap) x, (H0 ++ r).set 9 x = H0 ++ r.set 1 x := fun r x => setnk n0 1 x
  have o0 : ∀ r : Heap, (H0 ++ r)[0]? = some (some (.cells [.vs (IL v) .no])) := fun r => by rw [hH0]; rfl
  have o1 : ∀ r : Heap, (H0 ++ r)[1]? = some (some (.cells [.vs (IL w) .no])) := fun r => by rw [hH0]; rfl
  have o3 : ∀ r : Heap, (H0 ++ r)[3]? = some (some (.cells A0)) := fun r => by rw [hH0]; rfl
  have o4 : ∀ r : Heap, (H0 ++ r)[4]? = some (some (.cells [.int .i64 0])) := fun r => by rw [hH0]; rfl
  have hBn : Bk (H0 ++ [none]) 6 7 5 [] := hB.app fun n => by simp
  simp [FL, hA0z]
  refine callK_of (New5_ok [.vs (IL v) .no] [.vs (IL w) .no] [.int .u32 live] A0 [.int .i64 0]) (by simp) ?_
  simp
  rw [show ([some (.cells [.vs (IL v) .no]), some (.cells [.vs (IL w) .no]), some (.cells [.int .u32 live]), some (.cells A0), some (.cells [.int .i64 0]), some (.map []), some (.cells [.vs [] (.own 7), .mp 5]), some (.zone 0), none] : Heap) = H0 ++ [none] from by rw [hH0]; rfl]
  obtain ⟨L1, hL1⟩ : ∃ L1, L1 = ofL [] v := ⟨_, rfl⟩
  obtain ⟨X1, hX1⟩ : ∃ X1, X1 = ofC [] v := ⟨_, rfl⟩
  have i1 : Inv L1 := by rw [hL1]; exact ofL_inv Inv.nil hk
  have z1 : L1.length ≤ 114 := by rw [hL1]; simpa using ofL_len Inv.nil hk
  have x1 : X1.length = 19 := by rw [hX1]; exact ofC_len Inv.nil hk
  have c1 : ∀ n, clL n X1 = X1 := fun n => by rw [hX1]; exact ofC_cl v n
  have hof := Of_any (G := G) v hBn Inv.nil (by decide) hf hk
  rw [← hL1, ← hX1, hB.upd_app] at hof
  obtain ⟨U, hU⟩ : ∃ U, U = upd H0 6 7 5 L1 := ⟨_, rfl⟩
  have hUB : Bk U 6 7 5 L1 := by rw [hU]; exact hB.to i1 (by omega)
  rw [← hU] at hof
  have nU : U.length = 8 := by rw [hU, upd_len, n0]
  have keepU : ∀ {p : Nat} {c : List V}, (H0 ++ [])[p]? = some (some (.cells c)) → p ≠ 6 → U[p]? = some (some (.cells c)) := fun {p c} hp hne => by
    rw [hU]; exact upd_other hB (by simpa using hp) hne
  obtain ⟨L2, hL2⟩ : ∃ L2, L2 = ofL L1 w := ⟨_, rfl⟩
  obtain ⟨X2, hX2⟩ : ∃ X2, X2 = ofC L1 w := ⟨_, rfl⟩
  have i2 : Inv L2 := by rw [hL2]; exact ofL_inv i1 hkw
  have z2 : L2.length ≤ 228 := by rw [hL2]; have := ofL_len i1 hkw; omega
  have x2 : X2.length = 19 := by rw [hX2]; exact ofC_len i1 hkw
  have c2 : ∀ n, clL n X2 = X2 := fun n => by rw [hX2]; exact ofC_cl w n
  have hUX : Bk (U ++ [some (.cells X1), none]) 6 7 5 L1 := hUB.app fun n => by simp [Blk.cl, c1]
  have hof2 := Of_any (G := G) w hUX i1 (by omega) hg hkw
  rw [← hL2, ← hX2, hUB.upd_app] at hof2
  obtain ⟨T, hT⟩ : ∃ T, T = upd U 6 7 5 L2 := ⟨_, rfl⟩
  have hTB : Bk T 6 7 5 L2 := by rw [hT]; exact hUB.to i2 (by omega)
  rw [← hT] at hof2
  have nT : T.length = 8 := by rw [hT, upd_len, nU]
  have keepT : ∀ {p : Nat} {c : List V}, (H0 ++ [])[p]? = some (some (.cells c)) → p ≠ 6 → T[p]? = some (some (.cells c)) := fun {p c} hp hne => by
    rw [hT]; exact upd_other hUB (keepU hp hne) hne
  have apl : ∀ {A : Heap} {p : Nat} {c : List V}, A[p]? = some (some (.cells c)) → ∀ r : Heap, (A ++ r)[p]? = some (some (.cells c)) := fun {A p c} hp r => by
    rw [List.getElem?_append_left (List.getElem?_eq_some_iff.1 hp).1]; exact hp
  have u1 := apl (keepU (o1 []) (by decide))
  have u1' : ∀ (r : Heap) h, (U ++ r)[1]'h = some (.cells [.vs (IL w) .no]) := fun r h => (List.getElem?_eq_some_iff.1 (u1 r)).2
  have q0 := apl (keepT (o0 []) (by decide))
  have q1 := apl (keepT (o1 []) (by decide))
  have q2 := apl (keepT (c := [.int .u32 live]) (p := 2) (by rw [hH0]; rfl) (by decide))
  have q3 := apl (keepT (o3 []) (by decide))
  have q4 := apl (keepT (o4 []) (by decide))
  have q0' : ∀ (r : Heap) h, (T ++ r)[0]'h = some (.cells [.vs (IL v) .no]) := fun r h => (List.getElem?_eq_some_iff.1 (q0 r)).2
  have q1' : ∀ (r : Heap) h, (T ++ r)[1]'h = some (.cells [.vs (IL w) .no]) := fun r h => (List.getElem?_eq_some_iff.1 (q1 r)).2
  have q2' : ∀ (r : Heap) h, (T ++ r)[2]'h = some (.cells [.int .u32 live]) := fun r h => (List.getElem?_eq_some_iff.1 (q2 r)).2
  have q3' : ∀ (r : Heap) h, (T ++ r)[3]'h = some (.cells A0) := fun r h => (List.getElem?_eq_some_iff.1 (q3 r)).2
  have q4' : ∀ (r : Heap) h, (T ++ r)[4]'h = some (.cells [.int .i64 0]) := fun r h => (List.getElem?_eq_some_iff.1 (q4 r)).2
  have ua8 : ∀ r : Heap, (U ++ r)[8]? = r[0]? := fun r => apn0 nU
  have ua9 : ∀ r : Heap, (U ++ r)[9]? = r[1]? := fun r => apnk nU 1
  have ub8 : ∀ (r : Heap) x, (U ++ r).set 8 x = U ++ r.set 0 x := fun r x => setn0 nU x
  have ub9 : ∀ (r : Heap) x, (U ++ r).set 9 x = U ++ r.set 1 x := fun r x => setnk nU 1 x
  have ta8 : ∀ r : Heap, (T ++ r)[8]? = r[0]? := fun r => apn0 nT
  have ta9 : ∀ r : Heap, (T ++ r)[9]? = r[1]? := fun r => apnk nT 1
  have tb8 : ∀ (r : Heap) x, (T ++ r).set 8 x = T ++ r.set 0 x := fun r x => setn0 nT x
  have tb9 : ∀ (r : Heap) x, (T ++ r).set 9 x = T ++ r.set 1 x := fun r x => setnk nT 1 x
  have d1 : X1.drop 19 = [] := List.drop_eq_nil_of_le (by omega)
  have d2 : X2.drop 19 = [] := List.drop_eq_nil_of_le (by omega)
  have e1 : X1.take 19 = X1 := List.take_of_length_le (by omega)
  have e2 : X2.take 19 = X2 := List.take_of_length_le (by omega)
  simp only [FL] at hof hof2
  refine callSF_of hof ?_
  simp [nU, ua8, ub8, hZz, lZ, drop19, x1, d1, e1, u1, u1']
  refine callSF_of hof2 ?_
  simp [nT, ta8, ta9, tb8, tb9, hZz, lZ, drop19, x1, d1, e1, x2, d2, e2, keep_cl]
  have hlt : ∀ p, p < 8 → p < T.length := fun p hp => by omega
  have ts3 : ∀ (r : Heap) x, (T ++ r).set 3 x = T.set 3 x ++ r := fun r x => List.set_append_left _ _ (by omega)
  have ts4 : ∀ (r : Heap) y x, (T.set 3 y ++ r).set 4 x = (T.set 3 y).set 4 x ++ r := fun r y x => List.set_append_left _ _ (by simp; omega)
  have tg3 : ∀ (r : Heap) y x, ((T.set 3 y).set 4 x ++ r)[3]? = some y := fun r y x => by
    rw [List.getElem?_append_left (by simp; omega), List.getElem?_set_ne (by decide), List.getElem?_set_self (by omega)]
  have tg4 : ∀ (r : Heap) y x, ((T.set 3 y).set 4 x ++ r)[4]? = some x := fun r y x => by
    rw [List.getElem?_append_left (by simp; omega), List.getElem?_set_self (by simp; omega)]
  have tg4' : ∀ (r : Heap) y, (T.set 3 y ++ r)[4]? = some (some (.cells [.int .i64 0])) := fun r y => by
    have := q4 []
    rw [List.getElem?_append_left (by simp; omega), List.getElem?_set_ne (by decide)]
    simpa using this
  have tg4'' : ∀ (r : Heap) y h, (T.set 3 y ++ r)[4]'h = some (.cells [.int .i64 0]) := fun r y h => (List.getElem?_eq_some_iff.1 (tg4' r y)).2
  have tg3n : ∀ (r : Heap) y x h, ((T.set 3 y).set 4 x ++ r)[3]'h = y := fun r y x h => (List.getElem?_eq_some_iff.1 (tg3 r y x)).2
  have tg4n : ∀ (r : Heap) y x h, ((T.set 3 y).set 4 x ++ r)[4]'h = x := fun r y x h => (List.getElem?_eq_some_iff.1 (tg4 r y x)).2
  have A28 : A0.take 28 = A0 := List.take_of_length_le (by omega)
  have D28 : A0.drop 28 = [] := List.drop_eq_nil_of_le (by omega)
  have nA0 : A0.map V.nf1 = A0 := by rw [hA0]; simp [ansC, cnats, Function.comp_def, V.nf1]
  cases hv : winB v with
  | false =>
    have hd : decR v w live = (0, none) := by simp [decR, hv]
    simp [hd, ← hA0, nT, q3, q3', lA0, ts3, ts4, A28, D28, tg3, tg4, tg4', tg4'', tg3n, tg4n, keep_cl, kA0, nA0]
  | true =>
  cases hw : winB w with
  | false =>
    have hd : decR v w live = (0, none) := by simp [decR, hv, hw]
    simp [hd, ← hA0, nT, q3, q3', lA0, ts3, ts4, A28, D28, tg3, tg4, tg4', tg4'', tg3n, tg4n, keep_cl, kA0, nA0]
  | true =>
  have hXv : X1 = vcs (winV [] v).p (winV [] v).st .no := by rw [hX1, ofC, if_pos hv]
  have hLv : L1 = (winV [] v).L := by rw [hL1, ofL, if_pos hv]
  have hXw : X2 = vcs (winV L1 w).p (winV L1 w).st .no := by rw [hX2, ofC, if_pos hw]
  have hLw : L2 = (winV L1 w).L := by rw [hL2, ofL, if_pos hw]
  have k1 := winV_ok Inv.nil v hk
  have k2 := winV_ok i1 w hkw
  have hD : decR v w live = decR v w live := rfl
  conv at hD => rhs; rw [decR, hv, hw, if_pos (show (true && true) = true from rfl), ← hLv, ← hLw]
  obtain ⟨P, hP⟩ : ∃ P, P = (winV [] v).p := ⟨_, rfl⟩
  obtain ⟨S, hS⟩ : ∃ S, S = (winV [] v).st := ⟨_, rfl⟩
  obtain ⟨Q, hQ⟩ : ∃ Q, Q = (winV L1 w).p := ⟨_, rfl⟩
  obtain ⟨R, hR⟩ : ∃ R, R = (winV L1 w).st := ⟨_, rfl⟩
  have pl : P.length = 18 := by rw [hP]; exact k1.len
  have ql : Q.length = 18 := by rw [hQ]; exact k2.len
  have sl : S.length ≤ 1000000 := by
    have hw32 : v.length ≤ 32 := by simp only [winB, Bool.and_eq_true, decide_eq_true_eq] at hv; exact hv.1
    have := k1.st
    rw [hS]; omega
  rw [← hP, ← hQ, ← hS, ← hR] at hD
  rw [← hP, ← hS] at hXv
  rw [← hQ, ← hR] at hXw
  have hsa := same_ok (G := G) P Q S R live hlv pl ql sl
  rw [← hXv, ← hXw] at hsa
  have m1 : X1.map V.nf1 = X1 := by rw [hXv]; simp [vcs, cints, Function.comp_def, V.nf1]
  have m2 : X2.map V.nf1 = X2 := by rw [hXw]; simp [vcs, cints, Function.comp_def, V.nf1]
  simp [nT, q2, q2', ta8, ta9, x1, x2, e1, e2, keep_cl, m1, m2, c1, c2]
  refine callP_of hsa ?_
  cases hsm : sameB P Q S R live with
  | true =>
    rw [hsm, if_pos rfl] at hD
    have At : V.int .i64 0 :: A0.tail = A0 := by rw [hA0]; rfl
    simp [hD, ← hA0, nT, q3, q3', lA0, ts3, ts4, A28, D28, tg3, tg4, tg4', tg4'', tg3n, tg4n, keep_cl, kA0, nA0, At]
  | false =>
    rw [hsm] at hD
    simp only [Bool.false_eq_true, if_false] at hD
    simp [nT, q2, q2', ta8, ta9, x1, x2, e1, e2, keep_cl, m1, m2, c1, c2]
    have n10 : (T ++ [some (Blk.cells X1), some (Blk.cells X2)]).length = 10 := by simp [nT]
    have htr := Tries_F (G := G) (T ++ [some (Blk.cells X1), some (Blk.cells X2)]) 6 live X1 X2 c1 c2 m1 m2
    rw [n10, List.append_assoc] at htr
    refine callK_of htr (by simp) ?_
    simp
    subst hA0
    obtain ⟨E, hE⟩ : ∃ E, E = T ++ [some (Blk.cells X1), some (Blk.cells X2), some (.cells [.ptr 6 0]), some (.cells X1), some (.cells X2), some (.cells [.int .u32 live])] := ⟨_, rfl⟩
    have nE : E.length = 14 := by rw [hE]; simp [nT]
    obtain ⟨HH, hHH⟩ : ∃ HH, HH = E ++ [some (Blk.loop tryE [46] tryAs tryBo .ready)] := ⟨_, rfl⟩
    have nHH : HH.length = 15 := by rw [hHH]; simp [nE]
    have hHT : HH = T ++ [some (Blk.cells X1), some (Blk.cells X2), some (.cells [.ptr 6 0]), some (.cells X1), some (.cells X2), some (.cells [.int .u32 live]), some (Blk.loop tryE [46] tryAs tryBo .ready)] := by rw [hHH, hE]; simp
    have hBE : Bk E 6 7 5 L2 := by
      rw [hE]
      refine hTB.app2 fun n hn => ?_
      simp [nT] at hn
      simp [Blk.cl, c1, c2, clL, V.cl, show 6 < n by omega]
    have hBH : Bk HH 6 7 5 L2 := by
      rw [hHH]
      refine hBE.app2 fun n hn => ?_
      simp [nE] at hn
      simp [Blk.cl, tryE, V.cl, show 0 < n by omega, show 1 < n by omega, show 2 < n by omega, show 3 < n by omega, show 4 < n by omega]
    have h14 : HH[14]? = some (some (.loop tryE [46] tryAs tryBo .ready)) := by rw [hHH]; exact apn0 nE
    have hTH : TryH HH v w live := ⟨by rw [hHT]; exact q0 _, by rw [hHT]; exact q1 _, by rw [hHT]; exact q2 _, by rw [hHT]; exact q3 _, by rw [hHT]; exact q4 _, h14, hBH.shut⟩
    have h10 : HH[10]? = some (some (.cells [.ptr 6 0])) := by rw [hHT]; exact apnk nT 2
    have h11 : HH[11]? = some (some (.cells (vcs P S .no))) := by rw [hHT, ← hXv]; exact apnk nT 3
    have h12 : HH[12]? = some (some (.cells (vcs Q R .no))) := by rw [hHT, ← hXw]; exact apnk nT 4
    have h13 : HH[13]? = some (some (.cells [.int .u32 live])) := by rw [hHT]; exact apnk nT 5
    have htt := tries1_ok (G := G) hBH i2 (id := 14) (i1 := 13) (i2 := 10) (i3 := 11) (i4 := 12) (live := live) hlv h13 h10 h11 h12 pl ql (by omega) (hit := fun r => diffR v w live (stO r) (ofW (r.drop 18))) (H' := hitH HH)
      (fun r hr hh X hX => by
        obtain ⟨hr1, hr2⟩ := triesL_ok hr
        have := try_ok (G := G) (hTH.app hX) hf hg hk hkw hlv hv hw hr1 hr2 hh
        simpa using this)
      (fun r hr hh X hX => by
        obtain ⟨hr1, hr2⟩ := triesL_ok hr
        have := try_ok (G := G) (hTH.app hX) hf hg hk hkw hlv hv hw hr1 hr2 hh
        rw [hitH_app (by omega)] at this
        simpa using this)
      (fun r hr hh => ⟨by
        have := (hitH_shut hBH.shut (by omega) r).self
        rwa [show (hitH HH r).length = HH.length by simp [hitH]] at this, by simp [hitH]⟩)
    rw [← hE]
    have hbE := hBE.shut.self
    rw [nE] at hbE
    have hlk : look (mkE [(3, V.ptr 0 0), (4, V.ptr 1 0), (5, V.ptr 2 0), (6, V.ptr 3 0), (7, V.ptr 4 0), (45, V.fn 310 [V.ptr 13 0, V.ptr 10 0, V.ptr 11 0, V.ptr 12 0])]) [3, 4, 5, 6, 7] = tryE := by simp [tryE]
    cases hfd : (triesL L2 P Q live).find? (fun r => diffR v w live (stO r) (ofW (r.drop 18))) with
    | none =>
      rw [hfd] at htt hD
      have htE : trunc 14 HH = E := by rw [hHH]; have := hBE.shut.back [some (Blk.loop tryE [46] tryAs tryBo .ready)]; rwa [nE] at this
      refine rangeSF_of (as := tryAs) (bo := tryBo) (x := .nx) (H2 := HH) (r := .tup []) ?_ (by rw [nE]; exact h14) (.inl ⟨rfl, rfl⟩) ?_
      · rw [nE]
        rw [hHH] at htt
        rw [hHH, hlk]
        exact htt
      rw [nE, htE, hE]
      simp only [] at hD
      have At : ∀ c, V.int .i64 c :: (ansC 0 none).tail = ansC c none := fun c => rfl
      simp [hD, nT, q3, q3', lA0, ts3, ts4, A28, D28, tg3, tg4, tg4', tg4'', tg3n, tg4n, keep_cl, kA0, nA0, At, ansC_len, ansC_cl, ansC_nf, ansC_take, ansC_drop]
    | some r =>
      rw [hfd] at htt hD
      obtain ⟨hr1, hr2⟩ := triesL_ok (List.mem_of_find?_eq_some hfd)
      have lA : (ansC 1 (some r)).length = 28 := by
        have h1 := cs_len (stO_ok hr1 hr2)
        have h2 := dcs_len (ofW_ok (w := r.drop 18) (by simp [hr1]) (fun x hx => hr2 x (List.mem_of_mem_drop hx)))
        simp only [ansC, List.length_cons, List.length_append, h1, h2]
      obtain ⟨A1, hA1⟩ : ∃ A1, A1 = ansC 1 (some r) := ⟨_, rfl⟩
      have kA1 : ∀ n, clL n A1 = A1 := fun n => by rw [hA1]; exact ansC_cl _ _ n
      have nA1 : A1.map V.nf1 = A1 := by rw [hA1]; exact ansC_nf _ _
      rw [← hA1] at lA
      have tA1 : A1.take 28 = A1 := List.take_of_length_le (by omega)
      have hEE : hitH HH r = ((T.set 3 (some (.cells A1))).set 4 (some (.cells [.int .i64 0]))) ++ [some (Blk.cells X1), some (Blk.cells X2), some (.cells [.ptr 6 0]), some (.cells X1), some (.cells X2), some (.cells [.int .u32 live]), some (.loop tryE [46] tryAs tryBo (.done .ret))] := by
        rw [hHT, hitH, ← hA1, ts3, ts4]
        rw [List.set_append_right _ _ (by simp; omega)]
        simp [nT]
      have hsh := hitH_shut hBH.shut (by omega) r
      have hl14 : (hitH HH r)[14]? = some (some (.loop tryE [46] tryAs tryBo (.done .ret))) := by
        unfold hitH
        exact List.getElem?_set_self (by simp; omega)
      have hsh14 : trunc 14 (hitH HH r) = ((T.set 3 (some (.cells A1))).set 4 (some (.cells [.int .i64 0]))) ++ [some (Blk.cells X1), some (Blk.cells X2), some (.cells [.ptr 6 0]), some (.cells X1), some (.cells X2), some (.cells [.int .u32 live])] := by
        have hmE : E.map (Option.map (Blk.cl 14)) = E := by
          have := hbE
          unfold trunc at this
          rwa [List.take_of_length_le (by omega)] at this
        have hE1 : trunc 14 ((E.set 3 (some (.cells A1))).set 4 (some (.cells [.int .i64 0]))) = (E.set 3 (some (.cells A1))).set 4 (some (.cells [.int .i64 0])) := by
          unfold trunc
          rw [List.take_of_length_le (by simp; omega), List.map_set, List.map_set, hmE]
          simp [Blk.cl, kA1, clL, V.cl]
        have hEs : (E.set 3 (some (.cells A1))).set 4 (some (.cells [.int .i64 0])) = ((T.set 3 (some (.cells A1))).set 4 (some (.cells [.int .i64 0]))) ++ [some (Blk.cells X1), some (Blk.cells X2), some (.cells [.ptr 6 0]), some (.cells X1), some (.cells X2), some (.cells [.int .u32 live])] := by rw [hE, ts3, ts4]
        have hcut : hitH HH r = ((E.set 3 (some (.cells A1))).set 4 (some (.cells [.int .i64 0]))) ++ [some (.loop tryE [46] tryAs tryBo (.done .ret))] := by rw [hEs, hEE]; simp
        rw [hcut, trunc_app hE1 (by simp; exact nE), hEs]
      refine rangeSF_of (as := tryAs) (bo := tryBo) (x := .ret) (H2 := hitH HH r) (r := .tup []) ?_ (by rw [nE]; exact hl14) (.inr ⟨rfl, by decide⟩) ?_
      · rw [nE]
        rw [hlk, ← hHH]
        exact htt
      rw [nE, hsh14]
      simp only [] at hD
      simp [hD, nT, lA, tA1, kA1, nA1, tg3, tg4, tg3n, tg4n, ← hA1]
end Go.Ev
/- The examples of layer 18. -/
namespace Go.Ev
open Go Go.RowKit
variable {G : Tbl}
set_option maxRecDepth 10000
set_option maxHeartbeats 4000000
set_option linter.unusedSimpArgs false
set_option linter.unusedVariables false
def ex1 : List In4 := [⟨4, 0, 0, 1⟩, ⟨4, 0, 0, 2⟩]
def ex2 : List In4 := [⟨4, 0, 0, 3⟩]
def ex3 : List In4 := [⟨84, 0, 0, 255⟩]
def ex4 : List In4 := [⟨60, 0, 0, 0⟩]
theorem ex12 : sameB (winV [] ex1).p (winV (winV [] ex1).L ex2).p (winV [] ex1).st (winV (winV [] ex1).L ex2).st 1 = true := by kernel_rfl
theorem hit3 : diffR ex3 [] 1 (stO (rowK 1)) (ofW ((rowK 1).drop 18)) = true := by kernel_rfl
theorem hit4 : diffR ex4 [] 0 (stO (rowK 0)) (ofW ((rowK 0).drop 18)) = true := by kernel_rfl
theorem same_diff {v w : List In4} {live : Nat} {s : St} {d : Da} (hk : ∀ x ∈ v, x.k < 4294967296) (hkw : ∀ x ∈ w, x.k < 4294967296) (hs : s.ok) (hd : d.ok) (hv : winB v = true) (hw : winB w = true)
    (h : sameB (winV [] v).p (winV (winV [] v).L w).p (winV [] v).st (winV (winV [] v).L w).st live = true) : diffR v w live s d = false := by
  have k1 := winV_ok Inv.nil v hk
  have k2 := winV_ok k1.ext.inv w hkw
  have V1 := (win_vals Inv.nil hs hd hk hv).ext k2.ext
  have V2 := win_vals k1.ext.inv hs hd hkw hw
  obtain ⟨hp, hst⟩ := sameB_yes.1 h
  have hn1 := runW_le d v s
  have hn2 := runW_le d w s
  rw [← hst] at V2
  have one : ∀ {p q : List Int} {st : List Int} {a b : List In4} {L : List Nd}, WV (asgL s d) L p st a d s → WV (asgL s d) L q st b d s → (runW d a s).2 < a.length → (runW d b s).2 ≤ b.length → (runW d b s).2 < b.length := fun {p q st a b L} A B hlt hle => by
    rcases Nat.lt_or_ge (runW d b s).2 b.length with h | h
    · exact h
    · exfalso
      have he : (runW d b s).2 = b.length := Nat.le_antisymm hle h
      obtain ⟨x, hx, _, hx0⟩ := A.stop hlt
      have hlt2 := (List.getElem?_eq_some_iff.1 hx).1
      rw [B.num, ← he] at hlt2
      obtain ⟨y, n, hy, _, hyn, hn0⟩ := B.ahead _ hlt2
      rw [hx] at hy
      cases hy
      rw [hx0] at hyn
      cases hyn
      exact hn0 rfl
  unfold diffR
  by_cases e1 : (runW d v s).2 < v.length
  · have e2 := one V1 V2 e1 hn2
    simp [e1, e2]
  · have e2 : ¬ (runW d w s).2 < w.length := fun h => e1 (one V2 V1 h hn1)
    rw [if_neg (by simp [e1, e2])]
    have d1 := V1.done (by omega)
    have d2 := V2.done (by omega)
    refine partsD_no fun j hj => ?_
    unfold diffAt
    cases hb : partB live j with
    | false => rfl
    | true =>
      have hpq := hp j hj
      simp only [numDiff, hb, Bool.true_and, bne_eq_false_iff_eq] at hpq
      have o1 := runW_ok hd v s hs hk
      have o2 := runW_ok hd w s hs hkw
      rw [Bool.true_and, bne_eq_false_iff_eq, asg_pt o1 hj, asg_pt o2 hj]
      have h1 := (d1.val j hj).2
      have h2 := (d2.val j hj).2
      rw [hpq, h2] at h1
      exact (Option.some.inj h1).symm
theorem row_mem {L : List Nd} {p q : List Int} {live k : Nat} (hk : k < 12) : rowK k ∈ triesL L p q live := by
  rw [triesL, List.mem_append]
  exact .inr (List.mem_filterMap.2 ⟨k, List.mem_range.2 hk, rfl⟩)
theorem dec_tells {v w : List In4} {live : Nat} (hv : winB v = true) (hw : winB w = true) :
    decR v w live = (0, none) ∧ sameB (winV [] v).p (winV (winV [] v).L w).p (winV [] v).st (winV (winV [] v).L w).st live = true ∨
    (∃ r, decR v w live = (1, some r) ∧ r ∈ triesL (winV (winV [] v).L w).L (winV [] v).p (winV (winV [] v).L w).p live ∧ diffR v w live (stO r) (ofW (r.drop 18)) = true ∧ sameB (winV [] v).p (winV (winV [] v).L w).p (winV [] v).st (winV (winV [] v).L w).st live = false) ∨
    decR v w live = (2, none) ∧ (∀ r ∈ triesL (winV (winV [] v).L w).L (winV [] v).p (winV (winV [] v).L w).p live, diffR v w live (stO r) (ofW (r.drop 18)) = false) ∧ sameB (winV [] v).p (winV (winV [] v).L w).p (winV [] v).st (winV (winV [] v).L w).st live = false := by
  have hD : decR v w live = decR v w live := rfl
  conv at hD => rhs; rw [decR, hv, hw, if_pos (show (true && true) = true from rfl)]
  cases hs : sameB (winV [] v).p (winV (winV [] v).L w).p (winV [] v).st (winV (winV [] v).L w).st live with
  | true =>
    rw [hs, if_pos rfl] at hD
    exact .inl ⟨hD, rfl⟩
  | false =>
    rw [hs] at hD
    simp only [Bool.false_eq_true, if_false] at hD
    cases hfd : (triesL (winV (winV [] v).L w).L (winV [] v).p (winV (winV [] v).L w).p live).find? (fun r => diffR v w live (stO r) (ofW (r.drop 18))) with
    | none =>
      rw [hfd] at hD
      refine .inr (.inr ⟨hD, fun r hr => ?_, rfl⟩)
      have := List.find?_eq_none.1 hfd r hr
      simpa using this
    | some r =>
      rw [hfd] at hD
      have hh := List.find?_some hfd
      exact .inr (.inl ⟨r, hD, List.mem_of_find?_eq_some hfd, hh, rfl⟩)
theorem dec_hit {v w : List In4} {live k : Nat} (hk : ∀ x ∈ v, x.k < 4294967296) (hkw : ∀ x ∈ w, x.k < 4294967296) (hv : winB v = true) (hw : winB w = true) (hk12 : k < 12) (h : diffR v w live (stO (rowK k)) (ofW ((rowK k).drop 18)) = true) :
    ∃ r, decR v w live = (1, some r) ∧ r.length = 34 ∧ (∀ x ∈ r, x < 4294967296) ∧ diffR v w live (stO r) (ofW (r.drop 18)) = true := by
  rcases dec_tells (live := live) hv hw with ⟨_, hs⟩ | ⟨r, hd, hr, hh, _⟩ | ⟨_, hn, _⟩
  · have hso := stO_ok (rowK_len k) (rowK_lt k)
    have hdo := ofW_ok (w := (rowK k).drop 18) (by simp [rowK_len]) (fun x hx => rowK_lt k x (List.mem_of_mem_drop hx))
    rw [same_diff hk hkw hso hdo hv hw hs] at h
    cases h
  · obtain ⟨h1, h2⟩ := triesL_ok hr
    exact ⟨r, hd, h1, h2, hh⟩
  · rw [hn _ (row_mem hk12)] at h; cases h
theorem dec1 : decR ex1 ex2 1 = (0, none) := by
  rw [decR, if_pos (show (winB ex1 && winB ex2) = true from by decide +kernel), if_pos ex12]
end Go.Ev
/- knows of layer 18. -/
namespace Go.Ev
open Go Go.RowKit
variable {G : Tbl}
set_option maxRecDepth 10000
set_option maxHeartbeats 4000000
set_option linter.unusedSimpArgs false
set_option linter.unusedVariables false
theorem ansC_cells {r : List Nat} (hr : r.length = 34) (hr' : ∀ x ∈ r, x < 4294967296) (c : Int) : (ansC c (some r)).length = 28 ∧ (ansC c (some r)).tail.take 18 = (stO r).cs ∧ (ansC c (some r)).drop 19 = (ofW (r.drop 18)).cs := by
  have h1 := cs_len (stO_ok hr hr')
  have h2 := dcs_len (ofW_ok (w := r.drop 18) (by simp [hr]) (fun x hx => hr' x (List.mem_of_mem_drop hx)))
  refine ⟨by simp only [ansC, List.length_cons, List.length_append, h1, h2], ?_, ?_⟩
  · simp only [ansC, List.tail_cons]
    rw [List.take_left' h1]
  · simp only [ansC]
    rw [List.drop_succ_cons, List.drop_left' h1]
theorem knows18_ok [HasWd G] [HasNeg G] [HasIns G] [HasCheck G] [HasData G] [HasWith G] [HasStep G] [HasWRight G] [HasWinRun G] [HasWinAsg G] [HasWinState G] [HasWinOf G] [HasAffApart G] [HasAffine G] [hBA : HasBitsA G] [HasSymNew G] [HasSym G] [HasSymApart G] [HasDecDf G] [HasDec G] [HasL18 G]
    (p1 : FP G 148 [.str [97, 100, 100, 32, 48, 120, 49, 10, 97, 100, 100, 32, 48, 120, 50, 10]] (.tup [FL ex1, .int .i64 0, .int .i64 0]))
    (p2 : FP G 148 [.str [97, 100, 100, 32, 48, 120, 51, 10]] (.tup [FL ex2, .int .i64 0, .int .i64 0]))
    (p3 : FP G 148 [.str [97, 110, 100, 32, 48, 120, 102, 102, 10]] (.tup [FL ex3, .int .i64 0, .int .i64 0]))
    (p4 : FP G 148 [.str [100, 105, 118, 120, 10]] (.tup [FL ex4, .int .i64 0, .int .i64 0])) : FP G 319 [] (.bool true) := by
  refine FP_of HasL18.h_hurdlelaw18_knows (Nat.le_of_ble_eq_true rfl) ?_
  have hk1 : ∀ x ∈ ex1, x.k < 4294967296 := by decide
  have hk2 : ∀ x ∈ ex2, x.k < 4294967296 := by decide
  have hk3 : ∀ x ∈ ex3, x.k < 4294967296 := by decide
  have hk4 : ∀ x ∈ ex4, x.k < 4294967296 := by decide
  have hk0 : ∀ x ∈ ([] : List In4), x.k < 4294967296 := by decide
  have w1 : winB ex1 = true := by decide +kernel
  have w2 : winB ex2 = true := by decide +kernel
  have w3 : winB ex3 = true := by decide +kernel
  have w4 : winB ex4 = true := by decide +kernel
  have w0 : winB [] = true := by decide +kernel
  have d1 := Decide_ok (G := G) ex1 ex2 1 (by decide) (by decide) hk1 hk2 (by decide)
  have d2 := Decide_ok (G := G) ex3 [] 1 (by decide) (by decide) hk3 hk0 (by decide)
  have d3 := Decide_ok (G := G) ex4 [] 0 (by decide) (by decide) hk4 hk0 (by decide)
  obtain ⟨r, e2, r1, r2, hd⟩ := dec_hit (live := 1) hk3 hk0 w3 w0 (k := 1) (by decide) hit3
  obtain ⟨q, e3, q1, q2, _⟩ := dec_hit (live := 0) hk4 hk0 w4 w0 (k := 0) (by decide) hit4
  rw [dec1, w1, w2, if_pos (show (true && true) = true from rfl)] at d1
  rw [e2, w3, w0, if_pos (show (true && true) = true from rfl)] at d2
  rw [e3, w4, w0, if_pos (show (true && true) = true from rfl)] at d3
  have df := Differs_ok (G := G) ex3 [] 1 (stO r) (ofW (r.drop 18)) (by decide) (by decide) hk3 hk0 (by decide) (stO_ok r1 r2) (ofW_ok (w := r.drop 18) (by simp [r1]) (fun x hx => r2 x (List.mem_of_mem_drop hx)))
  rw [w3, w0, hd] at df
  simp only [FL, SV, DV, Bool.true_and] at d1 d2 d3 df p1 p2 p3 p4
  obtain ⟨la, lb, lc⟩ := ansC_cells r1 r2 1
  obtain ⟨qa, _, _⟩ := ansC_cells q1 q2 1
  have ca := ansC_cl
  have na := ansC_nf
  obtain ⟨B, hB⟩ : ∃ B, B = ansC 1 (some r) := ⟨_, rfl⟩
  obtain ⟨C, hC⟩ : ∃ C, C = ansC 1 (some q) := ⟨_, rfl⟩
  obtain ⟨A, hA⟩ : ∃ A, A = ansC 0 none := ⟨_, rfl⟩
  have lA : A.length = 28 := by rw [hA]; rfl
  have hA0z : V.int .i64 0 :: (cnats .u32 (zeros 20) ++ cnats .u64 (zeros 7)) = A := by rw [hA]; rfl
  have tA : A.take 28 = A := List.take_of_length_le (by omega)
  have dA : A.drop 28 = [] := List.drop_eq_nil_of_le (by omega)
  have A1 : A.take 1 = [.int .i64 0] := by rw [hA]; rfl
  have B1 : B.take 1 = [.int .i64 1] := by rw [hB]; rfl
  have C1 : C.take 1 = [.int .i64 1] := by rw [hC]; rfl
  have kA : ∀ n, clL n A = A := fun n => by rw [hA]; exact ansC_cl _ _ n
  have kB : ∀ n, clL n B = B := fun n => by rw [hB]; exact ansC_cl _ _ n
  have kC : ∀ n, clL n C = C := fun n => by rw [hC]; exact ansC_cl _ _ n
  rw [← hB] at la lb lc d2
  rw [← hC] at qa d3
  rw [← hA] at d1
  have tB : B.take 28 = B := List.take_of_length_le (by omega)
  have dB : B.drop 28 = [] := List.drop_eq_nil_of_le (by omega)
  have tC : C.take 28 = C := List.take_of_length_le (by omega)
  have dC : C.drop 28 = [] := List.drop_eq_nil_of_le (by omega)
  have lc' : (B.drop 19).take 9 = (ofW (r.drop 18)).cs := by rw [lc]; exact List.take_of_length_le (by rw [dcs_len (ofW_ok (w := r.drop 18) (by simp [r1]) (fun x hx => r2 x (List.mem_of_mem_drop hx)))]; exact Nat.le_refl _)
  simp
  refine callP_of p1 ?_
  simp
  refine callP_of p2 ?_
  simp
  refine callP_of p3 ?_
  simp
  refine callP_of p4 ?_
  simp
  refine callP_of d1 ?_
  simp [hA0z, lA, tA, dA, keep_cl]
  refine callP_of d2 ?_
  simp [hA0z, lA, tA, dA, la, tB, dB, keep_cl]
  refine callP_of d3 ?_
  simp [hA0z, lA, tA, dA, la, tB, dB, qa, tC, dC, A1, B1, C1, lb, lc', keep_cl, show ex2.length = 1 from rfl, cs_cl, dcs_cl, cs_nf, dcs_nf]
  refine callP_of df ?_
  simp
end Go.Ev
