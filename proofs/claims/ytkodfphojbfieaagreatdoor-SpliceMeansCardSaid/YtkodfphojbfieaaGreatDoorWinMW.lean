/- The values behind an instruction of a window. -/
import Derived.Test.YtkodfphojbfieaaGreatDoorDataAW
import Derived.Test.YtkodfphojbfieaaGreatDoorSymJW
import Derived.Test.YtkodfphojbfieaaGreatDoorInsAW
import Derived.Test.YtkodfphojbfieaaGreatDoorEvBitsCW
import Derived.Test.YtkodfphojbfieaaGreatDoorEvSymCW
set_option linter.unusedVariables false
set_option linter.unusedSimpArgs false
namespace Go.Ev
open Go Go.RowKit
variable {G : Tbl}
set_option maxRecDepth 10000
set_option maxHeartbeats 4000000
set_option linter.unusedSimpArgs false
set_option linter.unusedVariables false
variable {H : Heap} {b z m : Nat} {L : List Nd}
structure VS where
 L : List Nd
 p : List Int
 st : List Int
def vcs (p st : List Int) (tk : Tk) : List V := cints .i64 p ++ [.vs (ints .i64 st) tk]
section
variable {p st : List Int} {tk : Tk}
theorem vcs_len (hp : p.length = 18) : (vcs p st tk).length = 19 := by simp [vcs, hp]
theorem vcs_get {i : Nat} (hp : p.length = 18) (hi : i < 18) : ((vcs p st tk).drop i).take 1 = [.int .i64 (p[i]'(by omega))] := by
 rw [vcs, List.drop_append_of_le_length (by simp; omega), cints_drop, List.drop_eq_getElem_cons (by omega)]
 rfl
theorem vcs_set {i : Nat} (x : Int) (hp : p.length = 18) (hi : i < 18) : (vcs p st tk).take i ++ (.int .i64 x :: (vcs p st tk).drop (i + 1)) = vcs (p.set i x) st tk := by
 rw [vcs, vcs, List.take_append_of_le_length (by simp; omega), List.drop_append_of_le_length (by simp; omega), ← cints_set .i64 p i x (by omega)]
 simp
theorem vcs_get0 (hp : p.length = 18) : (vcs p st tk).take 1 = [.int .i64 (p[0]'(by omega))] := vcs_get (i := 0) hp (by omega)
theorem vcs_get1 (hp : p.length = 18) : (vcs p st tk).tail.take 1 = [.int .i64 (p[1]'(by omega))] := by rw [← List.drop_one]; exact vcs_get hp (by omega)
theorem vcs_set0 (x : Int) (hp : p.length = 18) : .int .i64 x :: (vcs p st tk).tail = vcs (p.set 0 x) st tk := by rw [← List.drop_one]; exact vcs_set (i := 0) x hp (by omega)
theorem vcs_set1 (x : Int) (hp : p.length = 18) : (vcs p st tk).take 1 ++ (.int .i64 x :: (vcs p st tk).drop 2) = vcs (p.set 1 x) st tk := vcs_set (i := 1) x hp (by omega)
theorem vcs_st (hp : p.length = 18) : ((vcs p st tk).drop 18).take 1 = [.vs (ints .i64 st) tk] := by
 rw [vcs, List.drop_left' (by simp [hp])]; rfl
theorem vcs_setst (st' : List Int) (tk' : Tk) (hp : p.length = 18) : (vcs p st tk).take 18 ++ (.vs (ints .i64 st') tk' :: (vcs p st tk).drop 19) = vcs p st' tk' := by
 rw [vcs, vcs, List.take_left' (by simp [hp]), List.drop_eq_nil_of_le (by simp [hp])]
theorem vcs_take (hp : p.length = 18) : (vcs p st tk).take 19 = vcs p st tk := List.take_of_length_le (by rw [vcs_len hp]; omega)
theorem vcs_cl (n z2 : Nat) (h : z2 < n) : clL n (vcs p st (.own z2)) = vcs p st (.own z2) := by
 rw [clL_eq_map, vcs]
 simp [cints, Function.comp_def, V.cl, Tk.cl, h]
end
noncomputable def byV (s : VS) (x : In4) : Int × List Nd := if (aluT x.op).2.1 = true then (s.p.getD 1 0, s.L) else putN s.L (sumNd (x.k :: zeros 34))
noncomputable def stepV (s : VS) (x : In4) : VS :=
 if (aluT x.op).2.2 = true then
  ⟨(bAlu (byV s x).2 (aluT x.op).1 (s.p.getD 0 0) (byV s x).1).2, s.p.set 0 (bAlu (byV s x).2 (aluT x.op).1 (s.p.getD 0 0) (byV s x).1).1,
   if (aluT x.op).2.1 = true ∧ (aluT x.op).1 = 52 then s.st ++ [s.p.getD 1 0] else s.st⟩
 else if x.op = 0 then ⟨(putN s.L (sumNd (x.k :: zeros 34))).2, s.p.set 0 (putN s.L (sumNd (x.k :: zeros 34))).1, s.st⟩
 else if x.op = 1 then ⟨(putN s.L (sumNd (x.k :: zeros 34))).2, s.p.set 1 (putN s.L (sumNd (x.k :: zeros 34))).1, s.st⟩
 else if x.op = 32 then ⟨(varN s.L (18 + (x.k / 4 : Nat))).2, s.p.set 0 (varN s.L (18 + (x.k / 4 : Nat))).1, s.st⟩
 else if x.op = 96 then ⟨s.L, s.p.set 0 (s.p.getD (2 + x.k) 0), s.st⟩
 else if x.op = 97 then ⟨s.L, s.p.set 1 (s.p.getD (2 + x.k) 0), s.st⟩
 else if x.op = 2 then ⟨s.L, s.p.set (2 + x.k) (s.p.getD 0 0), s.st⟩
 else if x.op = 3 then ⟨s.L, s.p.set (2 + x.k) (s.p.getD 1 0), s.st⟩
 else if x.op = 132 then ⟨(bNeg s.L (s.p.getD 0 0)).2, s.p.set 0 (bNeg s.L (s.p.getD 0 0)).1, s.st⟩
 else if x.op = 7 then ⟨s.L, (s.p.set 1 (s.p.getD 0 0)).set 0 (s.p.getD 0 0), s.st⟩
 else if x.op = 135 then ⟨s.L, s.p.set 0 (s.p.getD 1 0), s.st⟩
 else s
theorem Bk.setz {z2 k n : Nat} (h : Bk H b z m L) (h2 : H[z2]? = some (some (.zone k))) (hne : z2 ≠ z) : Bk (H.set z2 (some (.zone n))) b z m L := by
 have e1 : z2 ≠ b := fun e => by rw [e, h.hb] at h2; simp [bookC] at h2
 have e2 : z2 ≠ m := fun e => by rw [e, h.hm] at h2; simp at h2
 refine ⟨by rw [List.getElem?_set_ne e1]; exact h.hb, by rw [List.getElem?_set_ne hne]; exact h.hz, by rw [List.getElem?_set_ne e2]; exact h.hm, fun n hn => ?_, h.ok, h.small⟩
 rw [List.length_set] at hn
 rw [map_set', h.shut n hn]
 rfl
theorem upd_setz {z2 k : Nat} (h : Bk H b z m L) (h2 : H[z2]? = some (some (.zone k))) (hne : z2 ≠ z) (x : Option Blk) (L' : List Nd) : upd (H.set z2 x) b z m L' = (upd H b z m L').set z2 x := by
 have e1 : z2 ≠ b := fun e => by rw [e, h.hb] at h2; simp [bookC] at h2
 have e2 : z2 ≠ m := fun e => by rw [e, h.hm] at h2; simp at h2
 unfold upd
 rw [List.set_comm _ _ e1, List.set_comm _ _ hne, List.set_comm _ _ e2]
theorem upd_zone {z2 k : Nat} (h : Bk H b z m L) (h2 : H[z2]? = some (some (.zone k))) (hne : z2 ≠ z) (L' : List Nd) : (upd H b z m L')[z2]? = some (some (.zone k)) := by
 have e1 : b ≠ z2 := fun e => by rw [← e, h.hb] at h2; simp [bookC] at h2
 have e2 : m ≠ z2 := fun e => by rw [← e, h.hm] at h2; simp at h2
 unfold upd
 rw [List.getElem?_set_ne e2, List.getElem?_set_ne (Ne.symm hne), List.getElem?_set_ne e1]
 exact h2
section
variable {α : Type} {H l : List α} {n : Nat} (h : H.length = n)
include h
theorem apn0 : (H ++ l)[n]? = l[0]? := by subst h; exact ap0 H l
theorem apnk (k : Nat) : (H ++ l)[n + k]? = l[k]? := by subst h; exact apk H l k
theorem setn0 (x : α) : (H ++ l).set n x = H ++ l.set 0 x := by subst h; exact set0 H l x
theorem setnk (k : Nat) (x : α) : (H ++ l).set (n + k) x = H ++ l.set k x := by subst h; exact setk H l k x
end
theorem step17_ok [HasWd G] [HasNeg G] [HasIns G] [HasAffine G] [HasBits G] [HasSym G] [HasWinOf G] (s : VS) (x : In4) (z2 : Nat) (h : Bk H b z m s.L) (hz2 : H[z2]? = some (some (.zone s.st.length))) (hne : z2 ≠ z) (hi : Inv s.L) (hs : s.L.length < 900000)
  (hp : s.p.length = 18) (hst : s.st.length ≤ 1000) (hk : x.k < 4294967296) (hx : plainW x = true) :
  SF G 295 [.ptr b 0, .agg (vcs s.p s.st (.own z2)), IV x] H (.agg (vcs (stepV s x).p (stepV s x).st (.own z2))) ((upd H b z m (stepV s x).L).set z2 (some (.zone (stepV s x).st.length))) := by
 refine SF_of HasWinOf.h_window_step (Nat.le_of_ble_eq_true rfl) ?_
 have hlz := (List.getElem?_eq_some_iff.1 hz2).1
 have hlb := h.lb
 obtain ⟨Z, hZ⟩ : ∃ Z : List V, Z = vcs (List.replicate 18 0) [] .full := ⟨_, rfl⟩
 have lZ : Z.length = 19 := by rw [hZ]; rfl
 have drop19 : Z.drop 19 = [] := List.drop_eq_nil_of_le (by omega)
 have kZ : ∀ n, clL n Z = Z := fun n => by rw [hZ]; simp [vcs, cints, clL, V.cl]
 have hal := Alu_ok (G := G) x
 have hxl : x.cs.length = 4 := rfl
 have hxt : x.cs.take 4 = x.cs := rfl
 have kx : ∀ n, clL n x.cs = x.cs := fun n => by simp [In4.cs, clL, V.cl]
 have x0 : x.cs.take 1 = [.int .i64 x.op] := rfl
 have x3 : (x.cs.drop 3).take 1 = [.int .u32 (x.k : Int)] := rfl
 have hZz : [V.int .i64 0, .int .i64 0, .int .i64 0, .int .i64 0, .int .i64 0, .int .i64 0, .int .i64 0, .int .i64 0, .int .i64 0, .int .i64 0, .int .i64 0, .int .i64 0, .int .i64 0, .int .i64 0, .int .i64 0, .int .i64 0, .int .i64 0, .int .i64 0, .vs [] .full] = Z := by rw [hZ]; rfl
 -- the cells of values
 obtain ⟨W, hW⟩ : ∃ W : List Int → List Int → List V, ∀ p st, W p st = vcs p st (.own z2) := ⟨_, fun _ _ => rfl⟩
 have Wl : ∀ p st, p.length = 18 → (W p st).length = 19 := fun p st hp => by rw [hW]; exact vcs_len hp
 have Wt : ∀ p st, p.length = 18 → (W p st).take 19 = W p st := fun p st hp => by rw [hW]; exact vcs_take hp
 have Wc : ∀ p st n, z2 < n → clL n (W p st) = W p st := fun p st n hn => by rw [hW]; exact vcs_cl n z2 hn
 have W0 : ∀ p st, (hp : p.length = 18) → (W p st).take 1 = [.int .i64 (p[0]'(by omega))] := fun p st hp => by rw [hW]; exact vcs_get0 hp
 have W1 : ∀ p st, (hp : p.length = 18) → (W p st).tail.take 1 = [.int .i64 (p[1]'(by omega))] := fun p st hp => by rw [hW]; exact vcs_get1 hp
 have Ws : ∀ p st, p.length = 18 → ((W p st).drop 18).take 1 = [.vs (ints .i64 st) (.own z2)] := fun p st hp => by rw [hW]; exact vcs_st hp
 have S0 : ∀ p st (v : Int), p.length = 18 → .int .i64 v :: (W p st).tail = W (p.set 0 v) st := fun p st v hp => by rw [hW, hW]; exact vcs_set0 v hp
 have S1 : ∀ p st (v : Int), p.length = 18 → (W p st).take 1 ++ (.int .i64 v :: (W p st).drop 2) = W (p.set 1 v) st := fun p st v hp => by rw [hW, hW]; exact vcs_set1 v hp
 have Ss : ∀ p st st', p.length = 18 → (W p st).take 18 ++ (.vs (ints .i64 st') (.own z2) :: (W p st).drop 19) = W p st' := fun p st st' hp => by rw [hW, hW]; exact vcs_setst st' _ hp
 have Wg : ∀ p st (k : Nat), (hp : p.length = 18) → (hk : k < 16) → ((W p st).drop (2 + k)).take 1 = [.int .i64 (p[2 + k]'(by omega))] := fun p st k hp hk => by rw [hW]; exact vcs_get hp (by omega)
 have Wk : ∀ p st (k : Nat) (v : Int), p.length = 18 → k < 16 → (W p st).take (2 + k) ++ (.int .i64 v :: (W p st).drop (2 + k + 1)) = W (p.set (2 + k) v) st := fun p st k v hp hk => by rw [hW, hW]; exact vcs_set v hp (by omega)
 have S1b : ∀ v : Int, V.int .i64 (s.p[0]'(by omega)) :: .int .i64 v :: (W s.p s.st).drop 2 = W (s.p.set 1 v) s.st := fun v => by
  have := S1 s.p s.st v hp
  rw [W0 _ _ hp] at this
  exact this
 have g0 : s.p.getD 0 0 = s.p[0]'(by omega) := by rw [List.getD_eq_getElem?_getD, get_in (by omega)]; rfl
 have g1 : s.p.getD 1 0 = s.p[1]'(by omega) := by rw [List.getD_eq_getElem?_getD, get_in (by omega)]; rfl
 have hsp : ∀ (i : Nat) (v : Int), (s.p.set i v).length = 18 := fun i v => by rw [List.length_set]; exact hp
 have bR : ∀ (H' : Heap) (L' : List Nd) (C' : List V), H'.length = H.length → Bk H' b z m L' → (∀ n, z2 < n → clL n C' = C') → Bk (H' ++ [some (.cells C'), some (.cells x.cs), some (.cells Z)]) b z m L' := fun H' L' C' hl hB hc =>
  hB.app2 fun n hn => by simp at hn; simp [Blk.cl, kx, kZ, hc n (by omega)]
 have bk' : ∀ (L' : List Nd), (upd H b z m L').set z2 (some (.zone s.st.length)) = upd H b z m L' := fun L' => set_same (upd_zone h hz2 hne L')
 rw [← hW, ← hW]
 simp [IV, Wl _ _ hp, hxl, hxt, hZz, ap0, apk, set0, setk, leTn, leFn]
 refine callP_of hal ?_
 cases hal2 : (aluT x.op).2.2 with
 | true =>
  cases hal1 : (aluT x.op).2.1 with
  | false =>
   obtain ⟨q, hq⟩ : ∃ q, q = putN s.L (sumNd (x.k :: zeros 34)) := ⟨_, rfl⟩
   have hby : byV s x = q := by rw [byV, hal1, hq]; rfl
   obtain ⟨r, hr⟩ : ∃ r, r = bAlu q.2 (aluT x.op).1 s.p[0] q.1 := ⟨_, rfl⟩
   have hV : stepV s x = ⟨r.2, s.p.set 0 r.1, s.st⟩ := by rw [stepV, if_pos hal2, hby, g0, ← hr, hal1]; rfl
   have e1 : Ext s.L q.2 1 := by rw [hq]; exact (put_ext hi (sum_good (by simp) (const_lt hk) _)).1
   have l1 := e1.len
   obtain ⟨H1, hH1⟩ : ∃ H1, H1 = upd H b z m q.2 := ⟨_, rfl⟩
   have n1 : H1.length = H.length := by rw [hH1, upd_len]
   have B1 : Bk H1 b z m q.2 := by rw [hH1]; exact h.to e1.inv (by omega)
   have c1 := BConst_ok (G := G) x.k (bR H s.L (W s.p s.st) rfl h (fun n hn => Wc _ _ n hn)) (by omega)
   rw [BF, ← hq, h.upd_app, ← hH1] at c1
   obtain ⟨H2, hH2⟩ : ∃ H2, H2 = upd H b z m r.2 := ⟨_, rfl⟩
   have n2 : H2.length = H.length := by rw [hH2, upd_len]
   have c2 := BAlu_ok (G := G) (aluT x.op).1 s.p[0] q.1 (bR H1 q.2 (W s.p s.st) n1 B1 (fun n hn => Wc _ _ n hn)) e1.inv (by omega)
   rw [BF, ← hr, B1.upd_app, show upd H1 b z m r.2 = H2 by rw [hH1, hH2, h.upd_upd]] at c2
   have fin : ∀ r', trunc H.length (H2 ++ r') = H2 := fun r' => by rw [hH2]; exact h.back _ r'
   have bz : H2.set z2 (some (.zone s.st.length)) = H2 := by rw [hH2]; exact bk' _
   rw [hV]
   simp only [← hH2]
   simp [IV, Wl _ _ hp, Wl _ _ (hsp _ _), Wt _ _ hp, Wt _ _ (hsp _ _), W0 _ _ hp, W1 _ _ hp, Ws _ _ hp, S0 _ _ _ hp, S1 _ _ _ hp, S1b, Ss _ _ _ hp, hxl, hxt, lZ, drop19, x0, x3, leTn, leFn, ap0, apk, set0, setk]
   refine callSF_of c1 ?_
   simp [IV, Wl _ _ hp, Wl _ _ (hsp _ _), Wt _ _ hp, Wt _ _ (hsp _ _), W0 _ _ hp, W1 _ _ hp, Ws _ _ hp, S0 _ _ _ hp, S1 _ _ _ hp, S1b, Ss _ _ _ hp, hxl, hxt, lZ, drop19, x0, x3, leTn, leFn, n1, apn0 n1, apnk n1, setn0 n1, setnk n1]
   refine callSF_of c2 ?_
   simp [IV, Wl _ _ hp, Wl _ _ (hsp _ _), Wt _ _ hp, Wt _ _ (hsp _ _), W0 _ _ hp, W1 _ _ hp, Ws _ _ hp, S0 _ _ _ hp, S1 _ _ _ hp, S1b, Ss _ _ _ hp, hxl, hxt, lZ, drop19, x0, x3, leTn, leFn, n2, apn0 n2, apnk n2, setn0 n2, setnk n2, fin, Wc _ _ _ hlz, bz]
  | true =>
   obtain ⟨r, hr⟩ : ∃ r, r = bAlu s.L (aluT x.op).1 s.p[0] s.p[1] := ⟨_, rfl⟩
   by_cases h52 : (aluT x.op).1 = 52
   ·have hr' := hr
    rw [h52] at hr'
    have hV : stepV s x = ⟨r.2, s.p.set 0 r.1, s.st ++ [s.p[1]]⟩ := by rw [stepV, if_pos hal2]; simp only [byV, hal1, if_true, g0, g1, h52, ← hr', and_self]
    obtain ⟨Hz, hHz⟩ : ∃ Hz, Hz = H.set z2 (some (.zone (s.st.length + 1))) := ⟨_, rfl⟩
    have nz' : Hz.length = H.length := by rw [hHz, List.length_set]
    have Bz : Bk Hz b z m s.L := by rw [hHz]; exact h.setz hz2 hne
    obtain ⟨H2, hH2⟩ : ∃ H2, H2 = upd Hz b z m r.2 := ⟨_, rfl⟩
    have n2 : H2.length = H.length := by rw [hH2, upd_len, nz']
    have B4 : Bk (Hz ++ [some (.cells (W s.p (s.st ++ [s.p[1]]))), some (.cells x.cs), some (.cells Z), none]) b z m s.L := Bz.app2 fun n hn => by simp at hn; simp [Blk.cl, kx, kZ, Wc _ _ n (show z2 < n by omega)]
    have c2 := BAlu_ok (G := G) (aluT x.op).1 s.p[0] s.p[1] B4 hi (by omega)
    rw [BF, ← hr, Bz.upd_app, ← hH2] at c2
    have h8 : ((s.st.length + 1) * 8 ≤ 140737488355328) = True := eq_true (by omega)
    have fin : ∀ r', trunc H.length (H2 ++ r') = H2 := fun r' => by rw [hH2, ← nz']; exact Bz.back _ r'
    have bz : (upd H b z m r.2).set z2 (some (.zone (s.st.length + 1))) = H2 := by rw [hH2, hHz, upd_setz h hz2 hne]
    have gz : ∀ r', (H ++ r')[z2]? = some (some (.zone s.st.length)) := fun r' => by rw [List.getElem?_append_left hlz]; exact hz2
    have sz : ∀ (y : Option Blk) (r' : Heap), (H ++ r').set z2 y = H.set z2 y ++ r' := fun y r' => List.set_append_left _ _ hlz
    have e52 : ((aluT x.op).1 == 52) = true := beqT h52
    have hpp : ∀ st : List Int, True := fun _ => trivial
    rw [hV]
    simp [IV, Wl _ _ hp, Wl _ _ (hsp _ _), Wt _ _ hp, Wt _ _ (hsp _ _), W0 _ _ hp, W1 _ _ hp, Ws _ _ hp, S0 _ _ _ hp, S1 _ _ _ hp, S1b, Ss _ _ _ hp, hxl, hxt, lZ, drop19, x0, x3, leTn, leFn, ap0, apk, set0, setk, e52, gz, sz, ← hHz, h8, nz', apn0 nz', apnk nz', setn0 nz', setnk nz']
    refine callSF_of c2 ?_
    simp [IV, Wl _ _ hp, Wl _ _ (hsp _ _), Wt _ _ hp, Wt _ _ (hsp _ _), W0 _ _ hp, W1 _ _ hp, Ws _ _ hp, S0 _ _ _ hp, S1 _ _ _ hp, S1b, Ss _ _ _ hp, hxl, hxt, lZ, drop19, x0, x3, leTn, leFn, n2, apn0 n2, apnk n2, setn0 n2, setnk n2, fin, Wc _ _ _ hlz, bz]
   ·have hV : stepV s x = ⟨r.2, s.p.set 0 r.1, s.st⟩ := by rw [stepV, if_pos hal2]; simp only [byV, hal1, if_true, g0, g1, ← hr, h52, and_false, if_false]
    have e52 : ((aluT x.op).1 == 52) = false := beqF h52
    obtain ⟨H2, hH2⟩ : ∃ H2, H2 = upd H b z m r.2 := ⟨_, rfl⟩
    have n2 : H2.length = H.length := by rw [hH2, upd_len]
    have c2 := BAlu_ok (G := G) (aluT x.op).1 s.p[0] s.p[1] (bR H s.L (W s.p s.st) rfl h (fun n hn => Wc _ _ n hn)) hi (by omega)
    rw [BF, ← hr, h.upd_app, ← hH2] at c2
    have fin : ∀ r', trunc H.length (H2 ++ r') = H2 := fun r' => by rw [hH2]; exact h.back _ r'
    have bz : H2.set z2 (some (.zone s.st.length)) = H2 := by rw [hH2]; exact bk' _
    rw [hV]
    simp only [← hH2]
    simp [IV, Wl _ _ hp, Wl _ _ (hsp _ _), Wt _ _ hp, Wt _ _ (hsp _ _), W0 _ _ hp, W1 _ _ hp, Ws _ _ hp, S0 _ _ _ hp, S1 _ _ _ hp, S1b, Ss _ _ _ hp, hxl, hxt, lZ, drop19, x0, x3, leTn, leFn, ap0, apk, set0, setk, e52]
    refine callSF_of c2 ?_
    simp [IV, Wl _ _ hp, Wl _ _ (hsp _ _), Wt _ _ hp, Wt _ _ (hsp _ _), W0 _ _ hp, W1 _ _ hp, Ws _ _ hp, S0 _ _ _ hp, S1 _ _ _ hp, S1b, Ss _ _ _ hp, hxl, hxt, lZ, drop19, x0, x3, leTn, leFn, n2, apn0 n2, apnk n2, setn0 n2, setnk n2, fin, Wc _ _ _ hlz, bz]
 | false =>
  have hmem : x.op = 96 ∨ x.op = 97 ∨ x.op = 2 ∨ x.op = 3 → x.k < 16 := fun ho => by
   simp only [plainW, Bool.and_eq_true] at hx
   have h2 := hx.2
   rcases ho with ho | ho | ho | ho <;> simp [ruleB, ho] at h2 <;> exact h2
  have hbk := h.shut.back
  have cvk : convI .i64 (x.k : Int) = (x.k : Int) := wrap_nat64 (by omega)
  have hus := h.upd_self
  have bz0 : H.set z2 (some (.zone s.st.length)) = H := set_same hz2
  have bRK := bR H s.L (W s.p s.st) rfl h (fun n hn => Wc _ _ n hn)
  simp [IV, Wl _ _ hp, Wl _ _ (hsp _ _), Wt _ _ hp, Wt _ _ (hsp _ _), W0 _ _ hp, W1 _ _ hp, Ws _ _ hp, S0 _ _ _ hp, S1 _ _ _ hp, S1b, Ss _ _ _ hp, hxl, hxt, lZ, drop19, x0, x3, leTn, leFn, ap0, apk, set0, setk]
  by_cases o0 : x.op = 0
  ·have hV : ∀ q, q = putN s.L (sumNd (x.k :: zeros 34)) → stepV s x = ⟨q.2, s.p.set 0 q.1, s.st⟩ := fun q hq => by rw [stepV, if_neg (by simp [hal2]), if_pos o0, ← hq]
   obtain ⟨q, hq⟩ : ∃ q, q = putN s.L (sumNd (x.k :: zeros 34)) := ⟨_, rfl⟩
   have e1 : Ext s.L q.2 3 := by rw [hq]; exact (put_ext hi (sum_good (by simp) (const_lt hk) _)).1.mono (by omega)
   have l1 := e1.len
   obtain ⟨H2, hH2⟩ : ∃ H2, H2 = upd H b z m q.2 := ⟨_, rfl⟩
   have n2 : H2.length = H.length := by rw [hH2, upd_len]
   have c2 := BConst_ok (G := G) x.k bRK (by omega)
   rw [BF, ← hq, h.upd_app, ← hH2] at c2
   have fin : ∀ r', trunc H.length (H2 ++ r') = H2 := fun r' => by rw [hH2]; exact h.back _ r'
   have bz : H2.set z2 (some (.zone s.st.length)) = H2 := by rw [hH2]; exact bk' _
   rw [hV q hq]
   simp only [← hH2]
   simp (disch := omega) [IV, Wl _ _ hp, Wl _ _ (hsp _ _), Wt _ _ hp, Wt _ _ (hsp _ _), W0 _ _ hp, W1 _ _ hp, Ws _ _ hp, S0 _ _ _ hp, S1 _ _ _ hp, S1b, Ss _ _ _ hp, hxl, hxt, lZ, drop19, x0, x3, leTn, leFn, ap0, apk, set0, setk, o0]
   refine callSF_of c2 ?_
   simp [IV, Wl _ _ hp, Wl _ _ (hsp _ _), Wt _ _ hp, Wt _ _ (hsp _ _), W0 _ _ hp, W1 _ _ hp, Ws _ _ hp, S0 _ _ _ hp, S1 _ _ _ hp, S1b, Ss _ _ _ hp, hxl, hxt, lZ, drop19, x0, x3, leTn, leFn, n2, apn0 n2, apnk n2, setn0 n2, setnk n2, fin, Wc _ _ _ hlz, bz]
  have b0 : (x.op == 0) = false := beqF o0
  by_cases o1 : x.op = 1
  ·have hV : ∀ q, q = putN s.L (sumNd (x.k :: zeros 34)) → stepV s x = ⟨q.2, s.p.set 1 q.1, s.st⟩ := fun q hq => by rw [stepV, if_neg (by simp [hal2]), if_neg o0, if_pos o1, ← hq]
   obtain ⟨q, hq⟩ : ∃ q, q = putN s.L (sumNd (x.k :: zeros 34)) := ⟨_, rfl⟩
   have e1 : Ext s.L q.2 3 := by rw [hq]; exact (put_ext hi (sum_good (by simp) (const_lt hk) _)).1.mono (by omega)
   have l1 := e1.len
   obtain ⟨H2, hH2⟩ : ∃ H2, H2 = upd H b z m q.2 := ⟨_, rfl⟩
   have n2 : H2.length = H.length := by rw [hH2, upd_len]
   have c2 := BConst_ok (G := G) x.k bRK (by omega)
   rw [BF, ← hq, h.upd_app, ← hH2] at c2
   have fin : ∀ r', trunc H.length (H2 ++ r') = H2 := fun r' => by rw [hH2]; exact h.back _ r'
   have bz : H2.set z2 (some (.zone s.st.length)) = H2 := by rw [hH2]; exact bk' _
   rw [hV q hq]
   simp only [← hH2]
   simp (disch := omega) [IV, Wl _ _ hp, Wl _ _ (hsp _ _), Wt _ _ hp, Wt _ _ (hsp _ _), W0 _ _ hp, W1 _ _ hp, Ws _ _ hp, S0 _ _ _ hp, S1 _ _ _ hp, S1b, Ss _ _ _ hp, hxl, hxt, lZ, drop19, x0, x3, leTn, leFn, ap0, apk, set0, setk, o1]
   refine callSF_of c2 ?_
   simp [IV, Wl _ _ hp, Wl _ _ (hsp _ _), Wt _ _ hp, Wt _ _ (hsp _ _), W0 _ _ hp, W1 _ _ hp, Ws _ _ hp, S0 _ _ _ hp, S1 _ _ _ hp, S1b, Ss _ _ _ hp, hxl, hxt, lZ, drop19, x0, x3, leTn, leFn, n2, apn0 n2, apnk n2, setn0 n2, setnk n2, fin, Wc _ _ _ hlz, bz]
  have b1 : (x.op == 1) = false := beqF o1
  by_cases o32 : x.op = 32
  ·have hV : ∀ q, q = varN s.L (18 + (x.k / 4 : Nat)) → stepV s x = ⟨q.2, s.p.set 0 q.1, s.st⟩ := fun q hq => by rw [stepV, if_neg (by simp [hal2]), if_neg o0, if_neg o1, if_pos o32, ← hq]
   have qd : quoI .i64 (x.k : Int) 4 = ((x.k / 4 : Nat) : Int) := quo64 (b := 4) (by omega)
   have ad : addI .i64 18 ((x.k / 4 : Nat) : Int) = 18 + ((x.k / 4 : Nat) : Int) := addI64 (by omega) (by omega)
   obtain ⟨q, hq⟩ : ∃ q, q = varN s.L (18 + (x.k / 4 : Nat)) := ⟨_, rfl⟩
   have e1 : Ext s.L q.2 3 := by rw [hq]; exact (var_ext hi).mono (by omega)
   have l1 := e1.len
   obtain ⟨H2, hH2⟩ : ∃ H2, H2 = upd H b z m q.2 := ⟨_, rfl⟩
   have n2 : H2.length = H.length := by rw [hH2, upd_len]
   have c2 := BVar_ok (G := G) (18 + ((x.k / 4 : Nat) : Int)) bRK (by omega)
   rw [BF, ← hq, h.upd_app, ← hH2] at c2
   have fin : ∀ r', trunc H.length (H2 ++ r') = H2 := fun r' => by rw [hH2]; exact h.back _ r'
   have bz : H2.set z2 (some (.zone s.st.length)) = H2 := by rw [hH2]; exact bk' _
   rw [hV q hq]
   simp only [← hH2]
   simp (disch := omega) [IV, Wl _ _ hp, Wl _ _ (hsp _ _), Wt _ _ hp, Wt _ _ (hsp _ _), W0 _ _ hp, W1 _ _ hp, Ws _ _ hp, S0 _ _ _ hp, S1 _ _ _ hp, S1b, Ss _ _ _ hp, hxl, hxt, lZ, drop19, x0, x3, leTn, leFn, ap0, apk, set0, setk, o32, cvk, qd, ad, -Int.natCast_ediv]
   refine callSF_of c2 ?_
   simp [IV, Wl _ _ hp, Wl _ _ (hsp _ _), Wt _ _ hp, Wt _ _ (hsp _ _), W0 _ _ hp, W1 _ _ hp, Ws _ _ hp, S0 _ _ _ hp, S1 _ _ _ hp, S1b, Ss _ _ _ hp, hxl, hxt, lZ, drop19, x0, x3, leTn, leFn, n2, apn0 n2, apnk n2, setn0 n2, setnk n2, fin, Wc _ _ _ hlz, bz]
  have b32 : (x.op == 32) = false := beqF o32
  have flat : ∀ (p' : List Int), p'.length = 18 → stepV s x = ⟨s.L, p', s.st⟩ → V.agg (W p' s.st) = V.agg (vcs (stepV s x).p (stepV s x).st (.own z2)) ∧ (upd H b z m (stepV s x).L).set z2 (some (.zone (stepV s x).st.length)) = H := fun p' hp' e => by
   rw [e]
   refine ⟨by rw [hW], ?_⟩
   show (upd H b z m s.L).set z2 (some (.zone s.st.length)) = H
   rw [hus, bz0]
  by_cases o96 : x.op = 96
  ·have hk16 := hmem (by omega)
   have ad : addI .i64 2 (x.k : Int) = ((2 + x.k : Nat) : Int) := by rw [addI64 (by omega) (by omega)]; omega
   have gk : s.p.getD (2 + x.k) 0 = s.p[2 + x.k]'(by omega) := by rw [List.getD_eq_getElem?_getD, get_in (by omega)]; rfl
   have hV : stepV s x = ⟨s.L, s.p.set 0 (s.p[2 + x.k]'(by have := hmem (by omega); omega)), s.st⟩ := by rw [stepV, if_neg (by simp [hal2]), if_neg o0, if_neg o1, if_neg o32, if_pos o96, gk]
   have hw1 := Wg s.p s.st x.k hp hk16
   have hw2 := fun v => Wk s.p s.st x.k v hp hk16
   rw [hV]
   simp (disch := omega) [IV, Wl _ _ hp, Wl _ _ (hsp _ _), Wt _ _ hp, Wt _ _ (hsp _ _), W0 _ _ hp, W1 _ _ hp, Ws _ _ hp, S0 _ _ _ hp, S1 _ _ _ hp, S1b, Ss _ _ _ hp, hxl, hxt, lZ, drop19, x0, x3, leTn, leFn, ap0, apk, set0, setk, o96, cvk, ad, ltT, ltF, leF, leT, hw1, hw2, -Int.natCast_add, hus, bz0, hbk, Wc _ _ _ hlz]
  have b96 : (x.op == 96) = false := beqF o96
  by_cases o97 : x.op = 97
  ·have hk16 := hmem (by omega)
   have ad : addI .i64 2 (x.k : Int) = ((2 + x.k : Nat) : Int) := by rw [addI64 (by omega) (by omega)]; omega
   have gk : s.p.getD (2 + x.k) 0 = s.p[2 + x.k]'(by omega) := by rw [List.getD_eq_getElem?_getD, get_in (by omega)]; rfl
   have hV : stepV s x = ⟨s.L, s.p.set 1 (s.p[2 + x.k]'(by have := hmem (by omega); omega)), s.st⟩ := by rw [stepV, if_neg (by simp [hal2]), if_neg o0, if_neg o1, if_neg o32, if_neg o96, if_pos o97, gk]
   have hw1 := Wg s.p s.st x.k hp hk16
   have hw2 := fun v => Wk s.p s.st x.k v hp hk16
   rw [hV]
   simp (disch := omega) [IV, Wl _ _ hp, Wl _ _ (hsp _ _), Wt _ _ hp, Wt _ _ (hsp _ _), W0 _ _ hp, W1 _ _ hp, Ws _ _ hp, S0 _ _ _ hp, S1 _ _ _ hp, S1b, Ss _ _ _ hp, hxl, hxt, lZ, drop19, x0, x3, leTn, leFn, ap0, apk, set0, setk, o97, cvk, ad, ltT, ltF, leF, leT, hw1, hw2, -Int.natCast_add, hus, bz0, hbk, Wc _ _ _ hlz]
  have b97 : (x.op == 97) = false := beqF o97
  by_cases o2 : x.op = 2
  ·have hk16 := hmem (by omega)
   have ad : addI .i64 2 (x.k : Int) = ((2 + x.k : Nat) : Int) := by rw [addI64 (by omega) (by omega)]; omega
   have gk : s.p.getD (2 + x.k) 0 = s.p[2 + x.k]'(by omega) := by rw [List.getD_eq_getElem?_getD, get_in (by omega)]; rfl
   have hV : stepV s x = ⟨s.L, s.p.set (2 + x.k) s.p[0], s.st⟩ := by rw [stepV, if_neg (by simp [hal2]), if_neg o0, if_neg o1, if_neg o32, if_neg o96, if_neg o97, if_pos o2, g0]
   have hw1 := Wg s.p s.st x.k hp hk16
   have hw2 := fun v => Wk s.p s.st x.k v hp hk16
   rw [hV]
   simp (disch := omega) [IV, Wl _ _ hp, Wl _ _ (hsp _ _), Wt _ _ hp, Wt _ _ (hsp _ _), W0 _ _ hp, W1 _ _ hp, Ws _ _ hp, S0 _ _ _ hp, S1 _ _ _ hp, S1b, Ss _ _ _ hp, hxl, hxt, lZ, drop19, x0, x3, leTn, leFn, ap0, apk, set0, setk, o2, cvk, ad, ltT, ltF, leF, leT, hw1, hw2, -Int.natCast_add, hus, bz0, hbk, Wc _ _ _ hlz]
  have b2 : (x.op == 2) = false := beqF o2
  by_cases o3 : x.op = 3
  ·have hk16 := hmem (by omega)
   have ad : addI .i64 2 (x.k : Int) = ((2 + x.k : Nat) : Int) := by rw [addI64 (by omega) (by omega)]; omega
   have gk : s.p.getD (2 + x.k) 0 = s.p[2 + x.k]'(by omega) := by rw [List.getD_eq_getElem?_getD, get_in (by omega)]; rfl
   have hV : stepV s x = ⟨s.L, s.p.set (2 + x.k) s.p[1], s.st⟩ := by rw [stepV, if_neg (by simp [hal2]), if_neg o0, if_neg o1, if_neg o32, if_neg o96, if_neg o97, if_neg o2, if_pos o3, g1]
   have hw1 := Wg s.p s.st x.k hp hk16
   have hw2 := fun v => Wk s.p s.st x.k v hp hk16
   rw [hV]
   simp (disch := omega) [IV, Wl _ _ hp, Wl _ _ (hsp _ _), Wt _ _ hp, Wt _ _ (hsp _ _), W0 _ _ hp, W1 _ _ hp, Ws _ _ hp, S0 _ _ _ hp, S1 _ _ _ hp, S1b, Ss _ _ _ hp, hxl, hxt, lZ, drop19, x0, x3, leTn, leFn, ap0, apk, set0, setk, o3, cvk, ad, ltT, ltF, leF, leT, hw1, hw2, -Int.natCast_add, hus, bz0, hbk, Wc _ _ _ hlz]
  have b3 : (x.op == 3) = false := beqF o3
  by_cases o132 : x.op = 132
  ·have hV : ∀ q, q = bNeg s.L s.p[0] → stepV s x = ⟨q.2, s.p.set 0 q.1, s.st⟩ := fun q hq => by rw [stepV, if_neg (by simp [hal2]), if_neg o0, if_neg o1, if_neg o32, if_neg o96, if_neg o97, if_neg o2, if_neg o3, if_pos o132, g0, ← hq]
   obtain ⟨q, hq⟩ : ∃ q, q = bNeg s.L s.p[0] := ⟨_, rfl⟩
   have e1 : Ext s.L q.2 3 := by rw [hq]; exact neg_ext hi
   have l1 := e1.len
   obtain ⟨H2, hH2⟩ : ∃ H2, H2 = upd H b z m q.2 := ⟨_, rfl⟩
   have n2 : H2.length = H.length := by rw [hH2, upd_len]
   have c2 := BNeg_ok (G := G) s.p[0] bRK hi (by omega)
   rw [BF, ← hq, h.upd_app, ← hH2] at c2
   have fin : ∀ r', trunc H.length (H2 ++ r') = H2 := fun r' => by rw [hH2]; exact h.back _ r'
   have bz : H2.set z2 (some (.zone s.st.length)) = H2 := by rw [hH2]; exact bk' _
   rw [hV q hq]
   simp only [← hH2]
   simp (disch := omega) [IV, Wl _ _ hp, Wl _ _ (hsp _ _), Wt _ _ hp, Wt _ _ (hsp _ _), W0 _ _ hp, W1 _ _ hp, Ws _ _ hp, S0 _ _ _ hp, S1 _ _ _ hp, S1b, Ss _ _ _ hp, hxl, hxt, lZ, drop19, x0, x3, leTn, leFn, ap0, apk, set0, setk, o132]
   refine callSF_of c2 ?_
   simp [IV, Wl _ _ hp, Wl _ _ (hsp _ _), Wt _ _ hp, Wt _ _ (hsp _ _), W0 _ _ hp, W1 _ _ hp, Ws _ _ hp, S0 _ _ _ hp, S1 _ _ _ hp, S1b, Ss _ _ _ hp, hxl, hxt, lZ, drop19, x0, x3, leTn, leFn, n2, apn0 n2, apnk n2, setn0 n2, setnk n2, fin, Wc _ _ _ hlz, bz]
  have b132 : (x.op == 132) = false := beqF o132
  by_cases o7 : x.op = 7
  ·have hV : stepV s x = ⟨s.L, (s.p.set 1 s.p[0]).set 0 s.p[0], s.st⟩ := by rw [stepV, if_neg (by simp [hal2]), if_neg o0, if_neg o1, if_neg o32, if_neg o96, if_neg o97, if_neg o2, if_neg o3, if_neg o132, if_pos o7, g0]
   have hp1 : (s.p.set 1 s.p[0]).length = 18 := hsp _ _
   have w1 := W1 (s.p.set 1 s.p[0]) s.st hp1
   have w0 := S0 (s.p.set 1 s.p[0]) s.st s.p[0] hp1
   have hp2 : ((s.p.set 1 s.p[0]).set 0 s.p[0]).length = 18 := by rw [List.length_set]; exact hp1
   have w2 := Wl ((s.p.set 1 s.p[0]).set 0 s.p[0]) s.st hp2
   have w3 := Wt ((s.p.set 1 s.p[0]).set 0 s.p[0]) s.st hp2
   simp at w1
   rw [hV]
   simp (disch := omega) [IV, Wl _ _ hp, Wl _ _ (hsp _ _), Wt _ _ hp, Wt _ _ (hsp _ _), W0 _ _ hp, W1 _ _ hp, Ws _ _ hp, S0 _ _ _ hp, S1 _ _ _ hp, S1b, Ss _ _ _ hp, hxl, hxt, lZ, drop19, x0, x3, leTn, leFn, ap0, apk, set0, setk, o7, hus, bz0, hbk, Wc _ _ _ hlz, w0, w1, w2, w3]
  have b7 : (x.op == 7) = false := beqF o7
  by_cases o135 : x.op = 135
  ·have hV : stepV s x = ⟨s.L, s.p.set 0 s.p[1], s.st⟩ := by rw [stepV, if_neg (by simp [hal2]), if_neg o0, if_neg o1, if_neg o32, if_neg o96, if_neg o97, if_neg o2, if_neg o3, if_neg o132, if_neg o7, if_pos o135, g1]
   rw [hV]
   simp (disch := omega) [IV, Wl _ _ hp, Wl _ _ (hsp _ _), Wt _ _ hp, Wt _ _ (hsp _ _), W0 _ _ hp, W1 _ _ hp, Ws _ _ hp, S0 _ _ _ hp, S1 _ _ _ hp, S1b, Ss _ _ _ hp, hxl, hxt, lZ, drop19, x0, x3, leTn, leFn, ap0, apk, set0, setk, o135, hus, bz0, hbk, Wc _ _ _ hlz]
  have b135 : (x.op == 135) = false := beqF o135
  have hV : stepV s x = s := by rw [stepV, if_neg (by simp [hal2]), if_neg o0, if_neg o1, if_neg o32, if_neg o96, if_neg o97, if_neg o2, if_neg o3, if_neg o132, if_neg o7, if_neg o135]
  rw [hV]
  simp (disch := omega) [IV, Wl _ _ hp, Wl _ _ (hsp _ _), Wt _ _ hp, Wt _ _ (hsp _ _), W0 _ _ hp, W1 _ _ hp, Ws _ _ hp, S0 _ _ _ hp, S1 _ _ _ hp, S1b, Ss _ _ _ hp, hxl, hxt, lZ, drop19, x0, x3, leTn, leFn, ap0, apk, set0, setk, b0, b1, b32, b96, b97, b2, b3, b132, b7, b135, cvk, hus, bz0, hbk, Wc _ _ _ hlz]
end Go.Ev
/- The values of a window. -/
namespace Go.Ev
open Go Go.RowKit
variable {G : Tbl}
set_option maxRecDepth 10000
set_option maxHeartbeats 1000000
set_option linter.unusedSimpArgs false
set_option linter.unusedVariables false
variable {H : Heap} {b z m : Nat} {L : List Nd}
noncomputable def varV (s : VS) (i : Nat) : VS := ⟨(varN s.L i).2, s.p.set i (varN s.L i).1, s.st⟩
noncomputable def varsV (L : List Nd) (n : Nat) : VS := (List.range n).foldl varV ⟨L, List.replicate 18 0, []⟩
theorem varsV_succ (L : List Nd) (n : Nat) : varsV L (n + 1) = varV (varsV L n) n := by simp [varsV, List.range_succ]
noncomputable def winV (L : List Nd) (w : List In4) : VS := w.foldl stepV (varsV L 18)
theorem winV_snoc (L : List Nd) (w : List In4) (x : In4) : winV L (w ++ [x]) = stepV (winV L w) x := by simp [winV]
structure VOk (L : List Nd) (s : VS) (k n : Nat) : Prop where
 ext : Ext L s.L k
 len : s.p.length = 18
 st : s.st.length ≤ n
theorem stepV_ok {s : VS} {k n : Nat} (h : VOk L s k n) {x : In4} (hk : x.k < 4294967296) : VOk L (stepV s x) (k + 3) (n + 1) := by
 have hi := h.ext.inv
 have flat : ∀ p : List Int, p.length = 18 → VOk L ⟨s.L, p, s.st⟩ (k + 3) (n + 1) := fun p hp => ⟨h.ext.mono (by omega), hp, by have := h.st; show s.st.length ≤ _; omega⟩
 have put : ∀ (q : Int × List Nd) (p : List Int) (st : List Int), Ext s.L q.2 3 → p.length = 18 → st.length ≤ n + 1 → VOk L ⟨q.2, p, st⟩ (k + 3) (n + 1) := fun q p st e hp hs => ⟨h.ext.trans e, hp, hs⟩
 have hst := h.st
 have ec : Ext s.L (putN s.L (sumNd (x.k :: zeros 34))).2 1 := (put_ext hi (sum_good (by simp) (const_lt hk) _)).1
 rw [stepV]
 split
 ·have eb : Ext s.L (byV s x).2 1 := by
   rw [byV]
   split
   ·exact .refl hi 1
   ·exact ec
  refine put (bAlu (byV s x).2 (aluT x.op).1 (s.p.getD 0 0) (byV s x).1) _ _ (eb.trans (alu_ext eb.inv)) (by rw [List.length_set]; exact h.len) ?_
  split
  ·simp; omega
  ·omega
 ·split
  ·exact put _ _ _ (ec.mono (by omega)) (by rw [List.length_set]; exact h.len) (by omega)
  ·split
   ·exact put _ _ _ (ec.mono (by omega)) (by rw [List.length_set]; exact h.len) (by omega)
   ·split
    ·exact put _ _ _ ((var_ext hi).mono (by omega)) (by rw [List.length_set]; exact h.len) (by omega)
    ·split
     ·exact flat _ (by rw [List.length_set]; exact h.len)
     ·split
      ·exact flat _ (by rw [List.length_set]; exact h.len)
      ·split
       ·exact flat _ (by rw [List.length_set]; exact h.len)
       ·split
        ·exact flat _ (by rw [List.length_set]; exact h.len)
        ·split
         ·exact put _ _ _ (neg_ext hi) (by rw [List.length_set]; exact h.len) (by omega)
         ·split
          ·exact flat _ (by rw [List.length_set, List.length_set]; exact h.len)
          ·split
           ·exact flat _ (by rw [List.length_set]; exact h.len)
           ·exact flat _ h.len
theorem varsV_ok (h : Inv L) : ∀ n, VOk L (varsV L n) n 0
 | 0 => ⟨.refl h 0, by simp [varsV], by simp [varsV]⟩
 | n + 1 => by
  have ih := varsV_ok h n
  rw [varsV_succ]
  exact ⟨ih.ext.trans (var_ext ih.ext.inv), by show (List.set _ _ _).length = 18; rw [List.length_set]; exact ih.len, ih.st⟩
theorem varsV_st (L : List Nd) : ∀ n, (varsV L n).st = []
 | 0 => by simp [varsV]
 | n + 1 => by rw [varsV_succ]; exact varsV_st L n
theorem winV_ok (h : Inv L) : ∀ (w : List In4), (∀ x ∈ w, x.k < 4294967296) → VOk L (winV L w) (18 + 3 * w.length) w.length := fun w => by
 have : ∀ (w : List In4) (s : VS) (k n : Nat), VOk L s k n → (∀ x ∈ w, x.k < 4294967296) → VOk L (w.foldl stepV s) (k + 3 * w.length) (n + w.length) := fun w => by
  induction w with
  | nil => intro s k n h _; exact h
  | cons x w ih =>
   intro s k n h hw
   have := ih (stepV s x) (k + 3) (n + 1) (stepV_ok h (hw x (by simp))) fun y hy => hw y (by simp [hy])
   have e1 : k + 3 + 3 * w.length = k + 3 * (x :: w).length := by simp; omega
   have e2 : n + 1 + w.length = n + (x :: w).length := by simp; omega
   rw [e1, e2] at this
   exact this
 intro hw
 have := this w (varsV L 18) 18 0 (varsV_ok h 18) hw
 rwa [Nat.zero_add] at this
theorem Of_no [HasIns G] [HasCheck G] [HasWRight G] [HasWinOf G] (w : List In4) (h : Bk H b z m L) (hf : w.length ≤ maxLen) (hk : ∀ x ∈ w, x.k < 4294967296) (hw : winB w = false) :
  SF G 296 [.ptr b 0, FL w] H (.tup [.agg (vcs (List.replicate 18 0) [] .full), .bool false]) H := by
 refine SF_of HasWinOf.h_window_Of (Nat.le_of_ble_eq_true rfl) ?_
 have hbk := h.shut.back
 have hr := WRight_ok (G := G) w hf hk
 simp [FL] at hr ⊢
 refine callP_of hr ?_
 simp [hw, ap0, apk, set0, setk, hbk, vcs, cints]
theorem Of_ok [HasWd G] [HasNeg G] [HasIns G] [HasCheck G] [HasWRight G] [HasAffine G] [HasBits G] [HasSym G] [HasWinOf G] (w : List In4) (h : Bk H b z m L) (hi : Inv L) (hs : L.length ≤ 800000) (hf : w.length ≤ maxLen) (hk : ∀ x ∈ w, x.k < 4294967296) (hw : winB w = true) :
  SF G 296 [.ptr b 0, FL w] H (.tup [.agg (vcs (winV L w).p (winV L w).st .no), .bool true]) (upd H b z m (winV L w).L) := by
 refine SF_of HasWinOf.h_window_Of (Nat.le_of_ble_eq_true rfl) ?_
 have hlz := h.lz
 have hlb := h.lb
 have hus := h.upd_self
 have hr := WRight_ok (G := G) w hf hk
 have hw32 : w.length ≤ 32 := by simp only [winB, Bool.and_eq_true, decide_eq_true_eq] at hw; exact hw.1
 have hwp : ∀ x ∈ w, plainW x = true := by simp only [winB, Bool.and_eq_true, List.all_eq_true] at hw; exact hw.2
 obtain ⟨Z, hZ⟩ : ∃ Z : List V, Z = vcs (List.replicate 18 0) [] .full := ⟨_, rfl⟩
 have lZ : Z.length = 19 := by rw [hZ]; rfl
 have drop19 : Z.drop 19 = [] := List.drop_eq_nil_of_le (by omega)
 have kZ : ∀ n, clL n Z = Z := fun n => by rw [hZ]; simp [vcs, cints, clL, V.cl]
 have z18 : Z[18]? = some (.vs [] .full) := by rw [hZ]; rfl
 have z18' := (List.getElem?_eq_some_iff.1 z18).2
 have hZz : [V.int .i64 0, .int .i64 0, .int .i64 0, .int .i64 0, .int .i64 0, .int .i64 0, .int .i64 0, .int .i64 0, .int .i64 0, .int .i64 0, .int .i64 0, .int .i64 0, .int .i64 0, .int .i64 0, .int .i64 0, .int .i64 0, .int .i64 0, .int .i64 0, .vs [] .full] = Z := by rw [hZ]; rfl
 obtain ⟨z2, hz2⟩ : ∃ z2, z2 = H.length + 2 := ⟨_, rfl⟩
 obtain ⟨W, hW⟩ : ∃ W : List Int → List Int → List V, ∀ p st, W p st = vcs p st (.own z2) := ⟨_, fun _ _ => rfl⟩
 have Wl : ∀ p st, p.length = 18 → (W p st).length = 19 := fun p st hp => by rw [hW]; exact vcs_len hp
 have Wt : ∀ p st, p.length = 18 → (W p st).take 19 = W p st := fun p st hp => by rw [hW]; exact vcs_take hp
 have Wc : ∀ p st n, z2 < n → clL n (W p st) = W p st := fun p st n hn => by rw [hW]; exact vcs_cl n z2 hn
 have Wd : ∀ p st, p.length = 18 → (W p st).drop 19 = [] := fun p st hp => List.drop_eq_nil_of_le (by rw [Wl _ _ hp]; omega)
 have Wn : ∀ p st, clL H.length (W p st) = vcs p st .no := fun p st => by
  rw [hW, clL_eq_map, vcs, vcs, hz2]
  simp [cints, Function.comp_def, V.cl, Tk.cl]
 have zset : Z.set 18 (.vs [] (.own z2)) = W (List.replicate 18 0) [] := by rw [hZ, hW]; rfl
 -- the blocks
 obtain ⟨BB, hBB⟩ : ∃ BB : VS → Heap, ∀ s, BB s = upd H b z m s.L ++ [some (.cells Z), some (.cells (W s.p s.st)), some (.zone s.st.length)] := ⟨_, fun _ => rfl⟩
 have bl : ∀ s, (BB s).length = H.length + 3 := fun s => by rw [hBB]; simp [upd_len]
 have bK : ∀ (s : VS) (r : Heap), Inv s.L → s.L.length ≤ 1000000 → (∀ n, r.map (Option.map (Blk.cl n)) = r) → Bk (upd H b z m s.L ++ some (.cells Z) :: some (.cells (W s.p s.st)) :: some (.zone s.st.length) :: r) b z m s.L := fun s r hi' hs' hr =>
  (h.to hi' hs').app2 fun n hn => by
   simp [upd_len] at hn
   simp only [List.map_cons, Option.map_some, Blk.cl, kZ, Wc s.p s.st n (by omega), hr n]
 have tr : ∀ (s : VS) (r : Heap), Inv s.L → s.L.length ≤ 1000000 → trunc (H.length + 3) (upd H b z m s.L ++ some (.cells Z) :: some (.cells (W s.p s.st)) :: some (.zone s.st.length) :: r) = BB s := fun s r hi' hs' => by
  have := (bK s [] hi' hs' fun n => rfl).shut.back r
  simp [upd_len] at this
  rw [hBB]; exact this
 have nU : ∀ L', (upd H b z m L').length = H.length := fun L' => upd_len _ _ _ _ _
 have g0 : ∀ (L' : List Nd) (r : Heap), (upd H b z m L' ++ r)[H.length]? = r[0]? := fun L' r => apn0 (nU L')
 have gk : ∀ (L' : List Nd) (r : Heap) (k : Nat), (upd H b z m L' ++ r)[H.length + k]? = r[k]? := fun L' r k => apnk (nU L') k
 have sk : ∀ (L' : List Nd) (r : Heap) (k : Nat) (x : Option Blk), (upd H b z m L' ++ r).set (H.length + k) x = upd H b z m L' ++ r.set k x := fun L' r k x => setnk (nU L') k x
 have s0 : ∀ (L' : List Nd) (r : Heap) (x : Option Blk), (upd H b z m L' ++ r).set H.length x = upd H b z m L' ++ r.set 0 x := fun L' r x => setn0 (nU L') x
 have fin : ∀ L' r, trunc H.length (upd H b z m L' ++ r) = upd H b z m L' := fun L' r => h.back L' r
 have hb3 : (b < H.length + 3) = True := eq_true (by omega)
 simp [FL] at hr ⊢
 refine callP_of hr ?_
 simp [hw, hZz, lZ, ap0, apk, set0, setk, z18, z18', ← hz2, zset]
 have V1 := varsV_ok hi
 refine W_up 18 (fun i => [(0, .ptr b 0), (1, .vs (IL w) .no), (4, .ptr H.length 0), (6, .ptr (H.length + 1) 0), (18, .int .i64 i)]) (fun i => BB (varsV L i)) (fun _ => True) ?_ ?_
 ·have := tr (varsV L 0) [] hi (by show L.length ≤ _; omega)
  simp [varsV, hus] at this
  simp [keep_cl, varsV, hb3, this]
 ·intro i hi1 _
  have hV := V1 i
  have hLi := hV.ext.len
  by_cases hlt : i < 18
  ·have hB := bK (varsV L i) [] hV.ext.inv (by omega) fun n => rfl
   obtain ⟨q, hq⟩ : ∃ q, q = varN (varsV L i).L i := ⟨_, rfl⟩
   have hs1 : varsV L (i + 1) = ⟨q.2, (varsV L i).p.set i q.1, (varsV L i).st⟩ := by rw [varsV_succ, varV, ← hq]
   have c1 := BVar_ok (G := G) (i : Int) hB (by omega)
   rw [BF, ← hq, (h.to hV.ext.inv (by omega)).upd_app, h.upd_upd] at c1
   have e1 : Ext (varsV L i).L q.2 1 := by rw [hq]; exact var_ext hV.ext.inv
   have l1 := e1.len
   have t1 := tr ⟨q.2, (varsV L i).p.set i q.1, (varsV L i).st⟩ [] e1.inv (by show q.2.length ≤ _; omega)
   simp only at t1
   have wl := Wl (varsV L i).p (varsV L i).st hV.len
   have ws := vcs_set (i := i) (p := (varsV L i).p) (st := (varsV L i).st) (tk := .own z2) q.1 hV.len hlt
   rw [← hW, ← hW] at ws
   have hi18 : ((i : Int) < 18) = True := eq_true (by omega)
   have tb := tr (varsV L i) [] hV.ext.inv (by omega)
   rw [hBB]
   simp (disch := omega) [ltT, hlt, hi18]
   refine callSF_of c1 ?_
   simp (disch := omega) [g0, gk, s0, sk, nU, hlt, hi18, leTn, leFn, wl, ws, keep_cl, hb3, t1, hs1, add1', -Int.natCast_add]
  ·obtain rfl : i = 18 := by omega
   have wt := Wt (varsV L 18).p (varsV L 18).st hV.len
   have w18 : (W (varsV L 18).p (varsV L 18).st)[18]? = some (.vs (ints .i64 (varsV L 18).st) (.own z2)) := by
    rw [hW, vcs, List.getElem?_append_right (by simp [hV.len])]
    simp [hV.len]
   have w18' := (List.getElem?_eq_some_iff.1 w18).2
   rw [hBB]
   simp [g0, gk, s0, sk, nU, w18, w18', Wl _ _ hV.len]
   obtain ⟨T, hT⟩ : ∃ T : Nat → VS, ∀ j, T j = winV L (w.take j) := ⟨_, fun _ => rfl⟩
   have T0 : T 0 = varsV L 18 := by rw [hT, List.take_zero, winV, List.foldl_nil]
   have TN : T w.length = winV L w := by rw [hT, List.take_length]
   have Tok : ∀ j, VOk L (T j) (18 + 3 * 32) 32 := fun j => by
    rw [hT]
    have := winV_ok hi (w.take j) fun x hx => hk x (List.mem_of_mem_take hx)
    exact ⟨this.ext.mono (by simp; omega), this.len, Nat.le_trans this.st (by simp; omega)⟩
   have Ts : ∀ (j : Nat) (x : In4), w[j]? = some x → T (j + 1) = stepV (T j) x := fun j x hx => by rw [hT, hT, List.take_add_one, hx]; exact winV_snoc _ _ _
   refine W_up w.length (fun j => [(0, .ptr b 0), (4, .ptr H.length 0), (6, .ptr (H.length + 1) 0), (28, .vs (IL w) .no), (29, .int .i64 w.length), (30, .int .i64 j)]) (fun j => BB (T j)) (fun _ => True) ?_ ?_
   ·have := tr (varsV L 18) [] hV.ext.inv (by omega)
    simp [keep_cl, nU, hb3, this, T0]
   intro j hj _
   have ok := Tok j
   have lT := ok.ext.len
   have sT := ok.st
   by_cases hjt : j < w.length
   ·obtain ⟨x, hx⟩ : ∃ x, w[j]? = some x := ⟨_, get_in hjt⟩
    have hxm := List.mem_of_getElem? hx
    have hxc : x.cs.length = 4 := rfl
    have hxt : x.cs.take 4 = x.cs := rfl
    have gx : (IL w)[j]? = some x.cs := by simp [hx]
    have gx' := (List.getElem?_eq_some_iff.1 gx).2
    have hjl : ((j : Int) < (w.length : Int)) = True := eq_true (by omega)
    have hB := bK (T j) [some (.cells x.cs)] ok.ext.inv (by omega) fun n => by simp [Blk.cl, In4.cs, clL, V.cl]
    have hzz : (upd H b z m (T j).L ++ [some (.cells Z), some (.cells (W (T j).p (T j).st)), some (.zone (T j).st.length), some (.cells x.cs)])[z2]? = some (some (.zone (T j).st.length)) := by rw [hz2, gk]; rfl
    have c1 := step17_ok (G := G) (T j) x z2 hB hzz (by omega) ok.ext.inv (by omega) ok.len (by omega) (hk x hxm) (hwp x hxm)
    obtain ⟨s', hs'⟩ : ∃ s', s' = stepV (T j) x := ⟨_, rfl⟩
    rw [← hs', ← hW, ← hW, (h.to ok.ext.inv (by omega)).upd_app, h.upd_upd, hz2, sk] at c1
    have hTs : T (j + 1) = s' := by rw [hs']; exact Ts j x hx
    have ok' := Tok (j + 1)
    rw [hTs] at ok'
    have lT' := ok'.ext.len
    have t1 := tr s' [some (.cells x.cs)] ok'.ext.inv (by omega)
    rw [hBB]
    simp (disch := omega) [ltT, hjl, hjt, gx, gx', hxc, hxt, g0, gk, s0, sk, nU, leTn, leFn, Wl _ _ ok.len, Wt _ _ ok.len]
    refine callSF_of c1 ?_
    simp (disch := omega) [g0, gk, s0, sk, nU, leTn, leFn, Wl _ _ ok.len, Wt _ _ ok.len, Wl _ _ ok'.len, Wt _ _ ok'.len, Wd _ _ ok.len, keep_cl, hb3, t1, hTs, add1', hjt, -Int.natCast_add]
   ·obtain rfl : j = w.length := by omega
    rw [hBB]
    have ok' := ok
    rw [TN] at ok'
    simp (disch := omega) [TN, g0, gk, s0, sk, nU, leTn, leFn, Wl _ _ ok'.len, Wt _ _ ok'.len, lZ, drop19, fin, Wn, Wd _ _ ok'.len]
end Go.Ev
/- What an instruction makes of a state: run.Step. -/
namespace Go.Ev
open Go Go.RowKit
variable {G : Tbl}
set_option maxRecDepth 10000
set_option maxHeartbeats 2000000
set_option linter.unusedSimpArgs false
set_option linter.unusedVariables false
def cellS (s : St) (k : Nat) : Nat := if k < 16 then s.m.getD k 0 else 0
def storeS (s : St) (k v : Nat) : St := if k < 16 then { s with m := s.m.set k v } else s
def stepO (s : St) (x : In4) (d : Da) : St :=
 if x.op = 0 then { s with a := x.k } else if x.op = 1 then { s with x := x.k } else if x.op = 32 then { s with a := (wordS d x.k).1 }
 else if x.op = 96 then { s with a := cellS s x.k } else if x.op = 97 then { s with x := cellS s x.k } else if x.op = 2 then storeS s x.k s.a else if x.op = 3 then storeS s x.k s.x
 else if x.op = 7 then { s with x := s.a } else if x.op = 135 then { s with a := s.x } else if x.op = 132 then { s with a := negW s.a } else s
def aluB (s : St) (x : In4) : Nat := if (aluT x.op).2.1 then s.x else x.k
def aluR (s : St) (x : In4) : Nat × Bool := doW (aluT x.op).1 s.a (aluB s x)
def stepS (s : St) (x : In4) (d : Da) : St × Bool :=
 if (aluT x.op).2.2 then (if (aluR s x).2 then { s with a := (aluR s x).1 } else s, (aluR s x).2) else (stepO s x d, true)
theorem cellS_ok [HasStep G] (s : St) (k : Nat) (hs : s.ok) (hk : k < 4294967296) : FP G 162 [SV s, .int .u32 k] (.int .u32 (cellS s k : Nat)) := by
 refine FP_of HasStep.h_run_cell (Nat.le_of_ble_eq_true rfl) ?_
 have hl := hs.2.2.1
 by_cases h : 16 ≤ k
 ·have : (16 : Int) ≤ (k : Int) := by omega
  simp [SV, St.cs, this, cellS, show ¬ k < 16 from by omega]
 ·have h1 : k < 16 := by omega
  have c := cnats_get .u32 s.m k (by omega)
  have hg : s.m.getD k 0 = s.m[k]'(by omega) := by simp [List.getD, List.getElem?_eq_getElem (show k < s.m.length by omega)]
  have i1 : ((16 : Int) ≤ (k : Int)) = False := leF (by omega)
  have i2 : ((k : Int) < 16) = True := ltT (by omega)
  have i3 : (2 + k + 1 ≤ 16 + 1 + 1) = True := leTn (by omega)
  simp [SV, St.cs, i1, i2, hl, drop2, drop1, c, cellS, h1, hg, show 2 + k ≤ 17 from by omega]
theorem storeS_ok [HasStep G] (s : St) (k v : Nat) (hs : s.ok) (hk : k < 4294967296) : FP G 163 [SV s, .int .u32 k, .int .u32 v] (SV (storeS s k v)) := by
 refine FP_of HasStep.h_run_store (Nat.le_of_ble_eq_true rfl) ?_
 have hl := hs.2.2.1
 have ht := take_full (k := .u32) hl
 by_cases h1 : k < 16
 ·have c := cnats_set .u32 s.m k v (by omega)
  have i2 : ((k : Int) < 16) = True := ltT (by omega)
  have ht2 : (cnats .u32 (s.m.set k v)).take 16 = cnats .u32 (s.m.set k v) := take_full (by simp [hl])
  simp [SV, St.cs, i2, hl, drop2, drop1, drop21, take2, c, storeS, h1, ht2, show 2 + k ≤ 17 from by omega, show (k : Nat) ≤ 15 from by omega]
 ·have i1 : ((k : Int) < 16) = False := ltF (by omega)
  simp [SV, St.cs, i1, storeS, h1, hl, ht]
theorem Neg_ok [HasNeg G] (a : Nat) (ha : a < 4294967296) : FP G 138 [.int .u32 a] (.int .u32 (negW a : Nat)) := by
 refine FP_of HasNeg.h_word_Neg (Nat.le_of_ble_eq_true rfl) ?_
 have : negI .u32 (a : Int) = ((negW a : Nat) : Int) := by unfold negI negW; rw [wrap32]; omega
 simp [this]
theorem storeS_ok' {s : St} (hs : s.ok) {k v : Nat} (hv : v < 4294967296) : (storeS s k v).ok := by
 unfold storeS
 split
 ·refine ⟨hs.1, hs.2.1, by simp [hs.2.2.1], fun w hw => ?_⟩
  rcases List.mem_or_eq_of_mem_set hw with h | h
  ·exact hs.2.2.2 w h
  ·rw [h]; exact hv
 ·exact hs
theorem cellS_lt {s : St} (hs : s.ok) (k : Nat) : cellS s k < 4294967296 := by
 unfold cellS
 split
 ·rename_i h
  rw [List.getD, List.getElem?_eq_getElem (show k < s.m.length by rw [hs.2.2.1]; exact h), Option.getD_some]
  exact hs.2.2.2 _ (List.getElem_mem _)
 ·decide
theorem wordS_lt {d : Da} (hd : d.ok) (k : Nat) : (wordS d k).1 < 4294967296 := by
 unfold wordS
 split
 ·rename_i h
  have hl := wordsD_len hd.2.2.2.1
  simp only [List.getD, List.getElem?_eq_getElem (show k / 4 < (wordsD d).length by omega), Option.getD_some]
  exact wordsD_lt hd _ (List.getElem_mem _)
 ·decide
theorem aluB_lt {s : St} (hs : s.ok) {x : In4} (hk : x.k < 4294967296) : aluB s x < 4294967296 := by
 unfold aluB
 split
 ·exact hs.2.1
 ·exact hk
theorem stepO_ok {s : St} (hs : s.ok) {x : In4} (hk : x.k < 4294967296) {d : Da} (hd : d.ok) : (stepO s x d).ok := by
 obtain ⟨h1, h2, h3, h4⟩ := hs
 have hn : negW s.a < 4294967296 := Nat.mod_lt _ (by decide)
 have hc := cellS_lt ⟨h1, h2, h3, h4⟩ x.k
 have hw := wordS_lt hd x.k
 unfold stepO
 repeat' split
 all_goals first
  | exact ⟨hk, h2, h3, h4⟩
  | exact ⟨h1, hk, h3, h4⟩
  | exact ⟨hw, h2, h3, h4⟩
  | exact ⟨hc, h2, h3, h4⟩
  | exact ⟨h1, hc, h3, h4⟩
  | exact storeS_ok' ⟨h1, h2, h3, h4⟩ h1
  | exact storeS_ok' ⟨h1, h2, h3, h4⟩ h2
  | exact ⟨h1, h1, h3, h4⟩
  | exact ⟨h2, h2, h3, h4⟩
  | exact ⟨hn, h2, h3, h4⟩
  | exact ⟨h1, h2, h3, h4⟩
theorem stepS_ok' {s : St} (hs : s.ok) {x : In4} (hk : x.k < 4294967296) {d : Da} (hd : d.ok) : (stepS s x d).1.ok := by
 unfold stepS
 split
 ·simp only
  split
  ·exact ⟨doW32 _ hs.1 (aluB_lt hs hk), hs.2⟩
  ·exact hs
 ·exact stepO_ok hs hk hd
theorem Step_ok [HasWd G] [HasNeg G] [HasIns G] [HasData G] [HasStep G] (s : St) (x : In4) (d : Da) (hs : s.ok) (hk : x.k < 4294967296) (hd : d.ok) :
  FP G 164 [SV s, IV x, DV d] (.tup [SV (stepS s x d).1, .bool (stepS s x d).2]) := by
 refine FP_of HasStep.h_run_Step (Nat.le_of_ble_eq_true rfl) ?_
 have hl := hs.2.2.1
 have ht := take_full (k := .u32) hl
 have h6 := hd.2.2.2.1
 have ht6 := take_full (k := .u64) h6
 have ha := Alu_ok (G := G) x
 have hD := doW_ok (G := G) inferInstance (aluT x.op).1 s.a (aluB s x) hs.1 (aluB_lt hs hk)
 have hW := Word_ok (G := G) d x.k hd hk
 have hC := cellS_ok (G := G) s x.k hs hk
 have hS1 := storeS_ok (G := G) s x.k s.a hs hk
 have hS2 := storeS_ok (G := G) s x.k s.x hs hk
 have hN := Neg_ok (G := G) s.a hs.1
 have hlS : ∀ v, (storeS s x.k v).m.length = 16 := fun v => by unfold storeS; split <;> simp [hl]
 have htS := fun v => take_full (k := .u32) (hlS v)
 simp [SV, IV, DV, In4.cs, St.cs, Da.cs] at ha hW hC hS1 hS2 ⊢
 refine callP_of ha ?_
 cases hal : (aluT x.op).2.2
 case true =>
  simp [hal]
  have hst : stepS s x d = (if (aluR s x).2 then { s with a := (aluR s x).1 } else s, (aluR s x).2) := by simp [stepS, hal]
  cases hx : (aluT x.op).2.1
  ·have : aluB s x = x.k := by simp [aluB, hx]
   rw [this] at hD
   simp [hx]
   refine callP_of hD ?_
   cases hg : (doW (aluT x.op).1 s.a x.k).2 <;> simp [hg, hst, aluR, this, hl, ht]
  ·have : aluB s x = s.x := by simp [aluB, hx]
   rw [this] at hD
   simp [hx]
   refine callP_of hD ?_
   cases hg : (doW (aluT x.op).1 s.a s.x).2 <;> simp [hg, hst, aluR, this, hl, ht]
 simp [hal]
 have hst : stepS s x d = (stepO s x d, true) := by simp [stepS, hal]
 rw [hst]
 by_cases e0 : x.op = 0
 ·simp [e0, stepO, hl, ht]
 by_cases e1 : x.op = 1
 ·simp [e1, beqF, stepO, hl, ht]
 by_cases e2 : x.op = 32
 ·simp [e2, beqF, stepO, h6, ht6]
  refine callP_of hW ?_
  simp [hl, ht]
 by_cases e3 : x.op = 96
 ·simp [e3, beqF, stepO, hl, ht]
  refine callP_of hC ?_
  simp [hl, ht]
 by_cases e4 : x.op = 97
 ·simp [e4, beqF, stepO, hl, ht]
  refine callP_of hC ?_
  simp [hl, ht]
 by_cases e5 : x.op = 2
 ·simp [e5, beqF, stepO, hl, ht]
  refine callP_of hS1 ?_
  simp [hl, hlS, htS]
 by_cases e6 : x.op = 3
 ·simp [e6, beqF, stepO, hl, ht]
  refine callP_of hS2 ?_
  simp [hl, hlS, htS]
 by_cases e7 : x.op = 7
 ·simp [e7, beqF, stepO, hl, ht]
 by_cases e8 : x.op = 135
 ·simp [e8, beqF, stepO, hl, ht]
 by_cases e9 : x.op = 132
 ·simp [e9, beqF, stepO]
  refine callP_of hN ?_
  simp [hl, ht]
 simp [e0, e1, e2, e3, e4, e5, e6, e7, e8, e9, beqF, stepO, hl, ht]
end Go.Ev
/- The words of a record, by hurdleref04. -/
namespace Go.Ev
open Go Go.RowKit
variable {G : Tbl}
set_option maxRecDepth 10000
set_option maxHeartbeats 2000000
set_option linter.unusedSimpArgs false
set_option linter.unusedVariables false
theorem quoU64' {a b : Nat} (ha : a < 18446744073709551616) : quoI .u64 (a : Int) (b : Int) = ((a / b : Nat) : Int) := by
 have h : a / b ≤ a := Nat.div_le_self _ _
 unfold quoI
 have h2 : ((a : Int).tdiv (b : Int)) = ((a / b : Nat) : Int) := rfl
 rw [h2]
 exact IntWalk.u64_in _ ⟨Int.natCast_nonneg _, by rw [Int.ofNat_le.symm] at h; omega⟩
theorem convU8 {a : Nat} (ha : a < 256) : convI .u8 (a : Int) = (a : Int) := by
 unfold convI; exact IntWalk.u8_in _ ⟨by omega, by omega⟩
def lowL (v n : Nat) : List Nat := (List.range n).map fun j => v / 256 ^ j % 256
theorem lowL_succ (v n : Nat) : lowL v (n + 1) = lowL v n ++ [v / 256 ^ n % 256] := by simp [lowL, List.range_succ]
theorem lowL_len (v n : Nat) : (lowL v n).length = n := by simp [lowL]
theorem low_ok [HasR4 G] (v n : Nat) (hv : v < 18446744073709551616) (hn : n ≤ 8) {H : Heap} (hH : HShut H) : Big G (.F 182 [.int .u64 v, .int .i64 n] H (.vs (nats .u8 (lowL v n)) (.own H.length)) (H ++ [some (.zone n)])) := by
 refine F_of HasR4.h_hurdleref04_low (Nat.le_of_ble_eq_true rfl) ?_
 have ht := shut_trunc hH
 simp
 refine W_up n (fun i => [(0, .int .u64 (v / 256 ^ i : Nat)), (1, .int .i64 n), (5, .vs (nats .u8 (lowL v i)) (.own H.length)), (6, .int .i64 i)]) (fun i => H ++ [some (.zone i)]) (fun _ => True) ?_ ?_
 ·simp [keep_cl, lowL, ht]
 intro i hi _
 by_cases hlt : i < n
 ·have hd : v / 256 ^ i < 18446744073709551616 := Nat.lt_of_le_of_lt (Nat.div_le_self _ _) hv
  have hr : remI ((v / 256 ^ i : Nat) : Int) 256 = ((v / 256 ^ i % 256 : Nat) : Int) := rem64 (b := 256)
  have hq : quoI .u64 ((v / 256 ^ i : Nat) : Int) 256 = ((v / 256 ^ (i + 1) : Nat) : Int) := by
   rw [Nat.pow_succ, ← Nat.div_div_eq_div_mul]; exact quoU64' (b := 256) hd
  have hc : convI .u8 ((v / 256 ^ i % 256 : Nat) : Int) = ((v / 256 ^ i % 256 : Nat) : Int) := convU8 (Nat.mod_lt _ (by decide))
  have hll := lowL_len v i
  have hls := lowL_succ v i
  simp (disch := omega) [ltT, hr, hq, hc, hll, hls, leTn, add1', hlt, keep_cl, ht, List.getElem?_append_right, List.set_append_right, -Int.natCast_add, -Int.natCast_ediv, -Int.natCast_emod, -Int.natCast_pow]
 ·have hne : i = n := by omega
  subst hne
  simp [-Int.natCast_ediv]
theorem low_P [HasR4 G] (v n : Nat) (hv : v < 18446744073709551616) (hn : n ≤ 8) : FP G 182 [.int .u64 v, .int .i64 n] (.vs (nats .u8 (lowL v n)) .no) :=
 ⟨_, _, low_ok v n hv hn (H := []) (fun _ _ => rfl), by simp⟩
def num : List Nat → Nat
 | [] => 0
 | b :: l => b + 256 * num l
theorem num_lt : ∀ l : List Nat, (∀ b ∈ l, b < 256) → num l < 256 ^ l.length
 | [], _ => by decide
 | b :: l, h => by
  have h1 := num_lt l fun c hc => h c (by simp [hc])
  have h2 := h b (by simp)
  rw [num, List.length_cons, Nat.pow_succ]; omega
theorem number_ok [HasR4 G] (l : List Nat) (hl : l.length ≤ 7) (hb : ∀ b ∈ l, b < 256) : FP G 183 [.vs (nats .u8 l) .no] (.int .u64 (num l : Nat)) := by
 refine FP_of HasR4.h_hurdleref04_number (Nat.le_of_ble_eq_true rfl) ?_
 have s1 : subI .i64 (l.length : Int) 1 = (l.length : Int) - 1 := by rw [subI64] <;> omega
 simp [s1]
 refine W_up l.length (fun i => [(0, .vs (nats .u8 l) .no), (3, .int .u64 (num (l.drop (l.length - i)) : Nat)), (4, .int .i64 ((l.length : Int) - 1 - i))]) (fun _ => []) (fun _ => True) ?_ ?_
 ·simp [keep_cl, trunc, num]
 intro i hi _
 by_cases hlt : i < l.length
 ·have ht : ∃ t, t = l.length - 1 - i := ⟨_, rfl⟩
  obtain ⟨t, ht⟩ := ht
  have e1 : (l.length : Int) - 1 - i = (t : Int) := by omega
  have e2 : l.length - i = t + 1 := by omega
  have e3 : l.length - (i + 1) = t := by omega
  have htl : t < l.length := by omega
  have hg : l[t]? = some l[t] := List.getElem?_eq_getElem htl
  have hbt := hb l[t] (List.getElem_mem htl)
  have hdr := List.drop_eq_getElem_cons htl
  have h1 := num_lt (l.drop (t + 1)) fun c hc => hb c (List.mem_of_mem_drop hc)
  have h2 : 256 ^ (l.drop (t + 1)).length ≤ 256 ^ 6 := Nat.pow_le_pow_right (by decide) (by rw [List.length_drop]; omega)
  have h2' : (256 : Nat) ^ 6 = 281474976710656 := by decide
  have hs : subI .i64 (t : Int) 1 = (l.length : Int) - 1 - ((i + 1 : Nat) : Int) := by rw [subI64] <;> omega
  generalize l[t] = b at hg hbt hdr
  have hn : num (l.drop t) = b + 256 * num (l.drop (t + 1)) := by rw [hdr]; rfl
  obtain ⟨q, hqq⟩ : ∃ q, q = num (l.drop (t + 1)) := ⟨_, rfl⟩
  rw [← hqq] at h1 hn
  have hm : mulI .u64 (q : Int) 256 = ((q * 256 : Nat) : Int) := by unfold mulI; rw [show (q : Int) * 256 = ((q * 256 : Nat) : Int) by omega]; exact IntWalk.u64_in _ ⟨by omega, by omega⟩
  have ha : addI .u64 ((q * 256 : Nat) : Int) (b : Int) = ((num (l.drop t) : Nat) : Int) := by unfold addI; rw [hn, show ((q * 256 : Nat) : Int) + (b : Int) = ((b + 256 * q : Nat) : Int) by omega]; exact IntWalk.u64_in _ ⟨by omega, by omega⟩
  have hc : convI .u64 (b : Int) = (b : Int) := convU64 b (by omega)
  obtain ⟨_, hgv⟩ := List.getElem?_eq_some_iff.1 hg
  rw [e2, ← hqq]
  simp (disch := omega) [e1, e3, leT, hg, hgv, hc, hm, ha, hs, hlt, keep_cl, trunc, -Int.natCast_add, -Int.natCast_mul]
 ·have hne : i = l.length := by omega
  subst hne
  have hF : ((l.length : Int) ≤ (l.length : Int) - 1) = False := eq_false (by omega)
  simp [hF]
def bytesD (d : Da) (n : Nat) : List Nat := lowL d.nr 4 ++ lowL d.arch 4 ++ lowL d.ip 8 ++ (d.args.take n).flatMap fun a => lowL a 8
theorem low8 (v : Nat) : lowL v 8 = lowL (lo v) 4 ++ lowL (hi v) 4 := by
 simp only [lowL, List.range_succ, List.range_zero, List.nil_append, List.map_append, List.map_cons, List.map_nil, List.cons_append, lo, hi]
 simp only [Nat.reducePow, List.cons.injEq, and_true]
 and_intros <;> omega
theorem low_num (v : Nat) (h : v < 4294967296) : num (lowL v 4) = v := by
 simp only [lowL, List.range_succ, List.range_zero, List.nil_append, List.map_append, List.map_cons, List.map_nil, List.cons_append, num]
 omega
theorem low_lt (v n : Nat) : ∀ b ∈ lowL v n, b < 256 := by
 intro b hb
 simp only [lowL, List.mem_map] at hb
 obtain ⟨j, _, rfl⟩ := hb
 exact Nat.mod_lt _ (by decide)
theorem bytes_len (d : Da) (n : Nat) : (bytesD d n).length = 16 + 8 * (d.args.take n).length := by
 have : ∀ l : List Nat, (l.flatMap fun a => lowL a 8).length = 8 * l.length := by
  intro l
  induction l with
  | nil => rfl
  | cons a l ih => rw [List.flatMap_cons, List.length_append, ih, lowL_len, List.length_cons]; omega
 simp only [bytesD, List.length_append, lowL_len, this]
theorem bytes_words (d : Da) (h1 : d.nr < 4294967296) (h2 : d.arch < 4294967296) (h6 : d.args.length = 6) : bytesD d 6 = ((wordsD d).map fun w => lowL w 4).flatten := by
 have h : ∀ l : List Nat, (l.flatMap fun a => lowL a 8) = ((l.flatMap fun a => [lo a, hi a]).map fun w => lowL w 4).flatten := by
  intro l
  induction l with
  | nil => rfl
  | cons a l ih => simp only [List.flatMap_cons, List.map_append, List.flatten_append, ih, ← low8]; simp [low8, ih]
 rw [bytesD, List.take_of_length_le (by omega), h, low8]
 simp [wordsD]
theorem Bytes_ok [HasR4 G] (d : Da) (hd : d.ok) : FP G 184 [DV d] (.vs (nats .u8 (bytesD d 6)) .no) := by
 refine FP_of HasR4.h_hurdleref04_Bytes (Nat.le_of_ble_eq_true rfl) ?_
 obtain ⟨d1, d2, d3, d4, d5⟩ := hd
 have ht6 := take_full (k := .u64) d4
 have c1 := convU64 d.nr (by omega)
 have c2 := convU64 d.arch (by omega)
 have n1 : ∀ v n : Nat, n ≠ 0 → (nats .u8 (lowL v n) = []) = False := fun v n h => eq_false (by rw [nats_eq_nil]; intro h2; have := lowL_len v n; rw [h2] at this; exact h this.symm)
 simp [DV, Da.cs, c1, c2, d4, ht6]
 refine callK_of (low_ok d.nr 4 (by omega) (by decide) (by intro m _; simp)) (by simp) ?_
 simp [c2]
 refine callP_of (low_P d.arch 4 (by omega) (by decide)) ?_
 simp [lowL_len, n1]
 refine callP_of (low_P d.ip 8 d3 (by decide)) ?_
 simp [lowL_len, n1, nats_append]
 refine W_up 6 (fun i => [(1, .ptr 0 0), (3, .vs (nats .u8 (bytesD d i)) (.own 2)), (4, .int .i64 i)])
  (fun i => [some (.cells (.int .u32 (d.nr : Int) :: .int .u32 (d.arch : Int) :: .int .u64 (d.ip : Int) :: cnats .u64 d.args)), none, some (.zone (16 + 8 * i)), none]) (fun _ => True) ?_ ?_
 ·simp [keep_cl, trunc, bytesD]
 intro i hi _
 by_cases hlt : i < 6
 ·have hg : d.args[i]? = some d.args[i] := List.getElem?_eq_getElem (by omega)
  have hv := d5 _ (List.getElem_mem (show i < d.args.length by omega))
  have hc := cnats_get .u64 d.args i (by omega)
  have hb := bytes_len d i
  have hbs : bytesD d (i + 1) = bytesD d i ++ lowL d.args[i] 8 := by
   unfold bytesD
   rw [List.take_add_one, hg, Option.toList_some, List.flatMap_append, ← List.append_assoc]; simp
  have htl : (d.args.take i).length = i := by rw [List.length_take]; omega
  rw [htl] at hb
  have drop3 : ∀ (a b c : V) (l : List V) (n : Nat), (a :: b :: c :: l).drop (3 + n) = l.drop n := fun a b c l n => by rw [Nat.add_comm]; rfl
  generalize d.args[i] = w at hg hv hc hbs
  simp (disch := omega) [ltT, leTn, drop3, hc, d4, -Int.natCast_add]
  refine callP_of (low_P w 8 hv (by decide)) ?_
  simp (disch := omega) [lowL_len, n1, nats_append, hb, ← hbs, leTn, add1', hlt, keep_cl, trunc, -Int.natCast_add]
  omega
 ·have hne : i = 6 := by omega
  subst hne
  simp
theorem bytes_at {d : Da} (hd : d.ok) {j : Nat} (h : j < 16) : (((bytesD d 6).drop (4 * j)).take 4) = lowL ((wordsD d).getD j 0) 4 := by
 rw [bytes_words d hd.1 hd.2.1 hd.2.2.2.1, Nat.mul_comm]
 have hl := wordsD_len hd.2.2.2.1
 refine flat_at (fun w => lowL w 4) 4 (fun w => lowL_len w 4) (wordsD d) j _ ?_
 rw [List.getD, List.getElem?_eq_getElem (show j < (wordsD d).length by omega)]; rfl
theorem WordR_ok [HasR4 G] (d : Da) (n : Nat) (hd : d.ok) (hn : n < 4294967296) : FP G 185 [DV d, .int .u32 n] (.tup [.int .u32 ((wordS d n).1 : Nat), .bool (wordS d n).2]) := by
 refine FP_of HasR4.h_hurdleref04_Word (Nat.le_of_ble_eq_true rfl) ?_
 have hB := Bytes_ok (G := G) d hd
 have hd' := hd
 obtain ⟨d1, d2, d3, d4, d5⟩ := hd
 have ht6 := take_full (k := .u64) d4
 have r4 : remI (n : Int) 4 = ((n % 4 : Nat) : Int) := rem64 (b := 4)
 have hz : (((n % 4 : Nat) : Int) == 0) = decide (n % 4 = 0) := by rw [Bool.eq_iff_iff]; simp [-Int.natCast_emod]
 have hzn : (((n % 4 : Nat) : Int) != 0) = decide (n % 4 ≠ 0) := by rw [Bool.eq_iff_iff]; simp [-Int.natCast_emod]
 have hc := convI64 n hn
 simp [DV, Da.cs] at hB ⊢
 by_cases h4 : n % 4 = 0
 ·by_cases h64 : n < 64
  ·have hlt : ((64 : Int) ≤ (n : Int)) = False := leF (by omega)
   have hj : 4 * (n / 4) = n := by omega
   have hat := bytes_at hd' (show n / 4 < 16 by omega)
   rw [hj] at hat
   have hlen := bytes_len d 6
   rw [List.take_of_length_le (by omega), d4] at hlen
   have hw : wordS d n = ((wordsD d).getD (n / 4) 0, true) := by simp [wordS, h4, h64]
   have hlt2 := wordS_lt hd' n
   rw [hw] at hlt2 ⊢
   simp only at hlt2
   have hnum := low_num _ hlt2
   have hno := number_ok (G := G) (lowL ((wordsD d).getD (n / 4) 0) 4) (by rw [lowL_len]; decide) (low_lt _ _)
   have ha4 : addI .i64 (n : Int) 4 = ((n + 4 : Nat) : Int) := by rw [addI64] <;> omega
   simp only at hnum hno ⊢
   generalize (wordsD d).getD (n / 4) 0 = w at hat hnum hno hlt2
   have hcv : convI .u32 (w : Int) = (w : Int) := by unfold convI; exact wrap_nat32 hlt2
   simp [r4, hzn, h4, hlt, hc, ht6, d4, -Int.natCast_emod]
   refine callP_of hB ?_
   have hb2 : 0 ≤ (n : Int) ∧ n ≤ n + 4 ∧ n + 4 ≤ (bytesD d 6).length := by omega
   have hF : (((n + 4 : Nat) : Int) ≤ 64) = True := eq_true (by omega)
   simp (disch := omega) [ha4, hlen, hF, leTn, nats_drop, nats_take, hat, -Int.natCast_add]
   refine callP_of hno ?_
   simp [hnum, hcv]
  ·have hlt : ((64 : Int) ≤ (n : Int)) = True := leT (by omega)
   have hw : wordS d n = (0, false) := by simp [wordS, h64]
   rw [hw]
   simp [r4, hzn, h4, hlt, -Int.natCast_emod]
 ·have hw : wordS d n = (0, false) := by simp [wordS, h4]
  rw [hw]
  simp [r4, hzn, h4, -Int.natCast_emod]
end Go.Ev
/- What an instruction makes of a state, by hurdleref06. -/
namespace Go.Ev
open Go Go.RowKit
variable {G : Tbl}
set_option maxRecDepth 10000
set_option maxHeartbeats 2000000
set_option linter.unusedSimpArgs false
set_option linter.unusedVariables false
def stAt (s : St) (x : In4) (i : Nat) : St := if x.k < i ∧ x.k < 16 then (if x.op = 2 then { s with m := s.m.set x.k s.a } else if x.op = 3 then { s with m := s.m.set x.k s.x } else s) else s
def valAt (s : St) (x : In4) (i : Nat) : Nat := if x.k < i ∧ x.k < 16 then s.m.getD x.k 0 else 0
theorem Step6_ok [HasR2 G] [hR1 : HasR1 G] [HasR1n G] [HasR4 G] [HasR6s G] (s : St) (x : In4) (d : Da) (hs : s.ok) (hk : x.k < 4294967296) (hd : d.ok) :
  FP G 190 [SV s, IV x, DV d] (.tup [SV (stepS s x d).1, .bool (stepS s x d).2]) := by
 refine FP_of HasR6s.h_hurdleref06_Step (Nat.le_of_ble_eq_true rfl) ?_
 have hl := hs.2.2.1
 have ht := take_full (k := .u32) hl
 have h6 := hd.2.2.2.1
 have ht6 := take_full (k := .u64) h6
 have ha := AluR_ok (G := G) x
 have hD := DoR_ok hR1 (aluT x.op).1 s.a (aluB s x) hs.1 (aluB_lt hs hk)
 have hW := WordR_ok (G := G) d x.k hd hk
 have hN := NegR_ok (G := G) s.a hs.1
 simp [SV, IV, DV, In4.cs, St.cs, Da.cs] at ha hW ⊢
 refine callP_of ha ?_
 cases hal : (aluT x.op).2.2
 case true =>
  have hst : stepS s x d = (if (aluR s x).2 then { s with a := (aluR s x).1 } else s, (aluR s x).2) := by simp [stepS, hal]
  cases hx : (aluT x.op).2.1
  ·have : aluB s x = x.k := by simp [aluB, hx]
   rw [this] at hD
   simp [hx]
   refine callP_of hD ?_
   cases hg : (doW (aluT x.op).1 s.a x.k).2 <;> simp [hg, hst, aluR, this, hl, ht]
  ·have : aluB s x = s.x := by simp [aluB, hx]
   rw [this] at hD
   simp [hx]
   refine callP_of hD ?_
   cases hg : (doW (aluT x.op).1 s.a s.x).2 <;> simp [hg, hst, aluR, this, hl, ht]
 simp
 refine W_up 16 (fun i => [(3, .ptr 0 0), (4, .ptr 1 0), (5, .ptr 2 0), (6, .ptr 3 0), (14, .int .u32 (valAt s x i : Nat)), (15, .int .i64 i)])
  (fun i => [some (.cells (stAt s x i).cs), some (.cells x.cs), some (.cells d.cs), some (.cells (cnats .u32 (zeros 18)))]) (fun _ => True) ?_ ?_
 ·simp [keep_cl, trunc, stAt, valAt, St.cs, In4.cs, Da.cs]
 intro i hi _
 have hsl : (stAt s x i).m.length = 16 := by unfold stAt; split <;> (try split) <;> (try split) <;> simp [hl]
 by_cases hlt : i < 16
 ·have hcv : convI .u32 (i : Int) = (i : Int) := by unfold convI; exact wrap_nat32 (by omega)
  have i3 : (2 + i + 1 ≤ 16 + 1 + 1) = True := leTn (by omega)
  by_cases hik : i = x.k
  ·have hk16 : x.k < 16 := by omega
   have he : ((i : Int) == (x.k : Int)) = true := by simp [hik]
   have hst0 : stAt s x i = s := by unfold stAt; rw [if_neg (by omega)]
   have hval : valAt s x (i + 1) = s.m[i]'(by omega) := by
    unfold valAt; rw [if_pos (by omega), ← hik, List.getD, List.getElem?_eq_getElem (by omega)]; rfl
   have c := cnats_get .u32 s.m i (by omega)
   have cs1 := cnats_set .u32 s.m i s.a (by omega)
   have cs2 := cnats_set .u32 s.m i s.x (by omega)
   rw [hst0]
   by_cases h2 : x.op = 2
   ·have hst1 : stAt s x (i + 1) = { s with m := s.m.set i s.a } := by unfold stAt; rw [if_pos (by omega), if_pos h2, hik]
    simp (disch := omega) [ltT, hcv, he, St.cs, In4.cs, Da.cs, h2, hlt, hl, drop2, drop1, drop21, take2, c, cs1, i3, leTn, hval, hst1, add1', keep_cl, trunc, show 2 + i ≤ 17 from by omega, -Int.natCast_add]
   ·have n2 : (x.op == 2) = false := beqF h2
    by_cases h3 : x.op = 3
    ·have hst1 : stAt s x (i + 1) = { s with m := s.m.set i s.x } := by unfold stAt; rw [if_pos (by omega), if_neg h2, if_pos h3, hik]
     simp (disch := omega) [ltT, hcv, he, St.cs, In4.cs, Da.cs, h3, hlt, hl, drop2, drop1, drop21, take2, c, cs2, i3, leTn, hval, hst1, add1', keep_cl, trunc, show 2 + i ≤ 17 from by omega, -Int.natCast_add]
    ·have n3 : (x.op == 3) = false := beqF h3
     have hst1 : stAt s x (i + 1) = s := by unfold stAt; rw [if_pos (by omega), if_neg h2, if_neg h3]
     simp (disch := omega) [ltT, hcv, he, St.cs, In4.cs, Da.cs, n2, n3, hlt, hl, drop2, drop1, drop21, take2, c, i3, leTn, hval, hst1, add1', keep_cl, trunc, show 2 + i ≤ 17 from by omega, -Int.natCast_add]
  ·have he : ((i : Int) == (x.k : Int)) = false := beqF (by omega)
   have hst1 : stAt s x (i + 1) = stAt s x i := by
    unfold stAt
    by_cases h : x.k < i ∧ x.k < 16
    ·rw [if_pos h, if_pos (by omega)]
    ·rw [if_neg h, if_neg (by omega)]
   have hval : valAt s x (i + 1) = valAt s x i := by
    unfold valAt
    by_cases h : x.k < i ∧ x.k < 16
    ·rw [if_pos h, if_pos (by omega)]
    ·rw [if_neg h, if_neg (by omega)]
   simp (disch := omega) [ltT, hcv, he, St.cs, In4.cs, Da.cs, hlt, hst1, hval, add1', keep_cl, trunc, -Int.natCast_add]
 ·have hne : i = 16 := by omega
  subst hne
  have hst : stepS s x d = (stepO s x d, true) := by simp [stepS, hal]
  rw [hst]
  have hv : valAt s x 16 = cellS s x.k := by
   unfold valAt cellS
   by_cases h : x.k < 16
   ·rw [if_pos ⟨h, h⟩, if_pos h]
   ·rw [if_neg (by omega), if_neg h]
  have h2 : x.op = 2 → stAt s x 16 = stepO s x d := by
   intro h
   simp only [stAt, stepO, storeS, h]
   by_cases hk : x.k < 16 <;> simp [hk]
  have h3 : x.op = 3 → stAt s x 16 = stepO s x d := by
   intro h
   simp only [stAt, stepO, storeS, h]
   by_cases hk : x.k < 16 <;> simp [hk]
  have h0 : x.op ≠ 2 → x.op ≠ 3 → stAt s x 16 = s := by
   intro a b
   unfold stAt
   simp [a, b]
  have hsl2 := take_full (k := .u32) hsl
  rw [hv]
  simp only [St.cs, In4.cs, Da.cs]
  by_cases e5 : x.op = 2
  ·rw [h2 e5] at hsl hsl2 ⊢
   simp [e5, beqF, hsl, hsl2, -Int.natCast_add]
  by_cases e6 : x.op = 3
  ·rw [h3 e6] at hsl hsl2 ⊢
   simp [e6, beqF, hsl, hsl2, -Int.natCast_add]
  rw [h0 e5 e6]
  clear h0 h2 h3 hsl hsl2
  by_cases e0 : x.op = 0
  ·simp [e0, stepO, hl, ht]
  by_cases e1 : x.op = 1
  ·simp [e1, beqF, stepO, hl, ht]
  by_cases e2 : x.op = 32
  ·simp [e2, beqF, stepO, h6, ht6]
   refine callP_of hW ?_
   simp [hl, ht]
  by_cases e3 : x.op = 96
  ·simp [e3, beqF, stepO, hl, ht]
  by_cases e4 : x.op = 97
  ·simp [e4, beqF, stepO, hl, ht]
  by_cases e7 : x.op = 7
  ·simp [e7, beqF, stepO, hl, ht]
  by_cases e8 : x.op = 135
  ·simp [e8, beqF, stepO, hl, ht]
  by_cases e9 : x.op = 132
  ·simp [e9, beqF, stepO]
   refine callP_of hN ?_
   simp [hl, ht]
  simp [e0, e1, e2, e3, e4, e5, e6, e7, e8, e9, beqF, stepO, hl, ht]
end Go.Ev
/- An instruction changes nothing but what it sets, and hangs on what it needs. -/
namespace Go.Ev
open Go Go.RowKit
variable {G : Tbl}
set_option maxRecDepth 10000
set_option maxHeartbeats 2000000
set_option linter.unusedSimpArgs false
set_option linter.unusedVariables false
def part (s : St) : Nat → Nat
 | 0 => s.a
 | 1 => s.x
 | i + 2 => s.m.getD i 0
theorem part_set (s : St) (k v i : Nat) (hl : s.m.length = 16) : part (storeS s k v) i = if k < 16 ∧ i = k + 2 then v else part s i := by
 unfold storeS
 split
 ·rename_i hk
  match i with
  | 0 => simp [part]
  | 1 => simp [part]
  | i + 2 =>
   simp only [part, List.getD, List.getElem?_set]
   by_cases e : k = i
   ·subst e; simp [hk, hl]
   ·simp [e, show ¬ i = k from fun h => e h.symm]
 ·rename_i hk; simp [hk]
theorem part_cell (s : St) (k : Nat) : cellS s k = if k < 16 then part s (k + 2) else 0 := rfl
theorem stepO_frame (s : St) (x : In4) (d : Da) (hs : s.m.length = 16) (hal : (aluT x.op).2.2 = false) (i : Nat) (hi : i < 18) (h : setsP x i = false) : part (stepO s x d) i = part s i := by
 unfold setsP at h
 have two : ∀ v, (x.op = 2 ∨ x.op = 3) → part (storeS s x.k v) i = part s i := by
  intro v h23
  rw [part_set s x.k v i hs]
  split
  ·rename_i hk
   exfalso
   rw [if_neg (by omega), if_neg (by omega)] at h
   simp only [decide_eq_false_iff_not] at h
   exact h ⟨h23, hk.2.symm⟩
  ·rfl
 match i, hi with
 | 0, _ =>
  simp [hal] at h
  unfold stepO
  repeat' split
  all_goals first
   | rfl
   | (exfalso; omega)
   | exact two _ (by omega)
 | 1, _ =>
  simp at h
  unfold stepO
  repeat' split
  all_goals first
   | rfl
   | (exfalso; omega)
   | exact two _ (by omega)
 | i + 2, hi =>
  unfold stepO
  repeat' split
  all_goals first
   | rfl
   | exact two _ (by omega)
theorem stepO_uses (s t : St) (x : In4) (d : Da) (hs : s.m.length = 16) (ht : t.m.length = 16) (h : ∀ i, i < 18 → usesP x i = true → part s i = part t i) (i : Nat) (hi : i < 18) (hal : (aluT x.op).2.2 = false) (hset : setsP x i = true) :
  part (stepO s x d) i = part (stepO t x d) i := by
 have u0 : x.op ∈ [2, 7, 132, 22] → s.a = t.a := fun hm => h 0 (by decide) (by simp only [usesP, hm]; simp)
 have u1 : x.op ∈ [3, 135] → s.x = t.x := fun hm => h 1 (by decide) (by simp only [usesP, hm]; simp)
 have uc : (x.op = 96 ∨ x.op = 97) → cellS s x.k = cellS t x.k := by
  intro hm
  rw [part_cell, part_cell]
  split
  ·rename_i hk
   exact h (x.k + 2) (by omega) (by simp [usesP, hm])
  ·rfl
 unfold setsP at hset
 have two : ∀ v, (x.op = 2 ∨ x.op = 3) → part (storeS s x.k v) i = part (storeS t x.k v) i := by
  intro v h23
  rw [part_set s x.k v i hs, part_set t x.k v i ht]
  split
  ·rfl
  ·rename_i hk
   exfalso
   by_cases i0 : i = 0
   ·subst i0; simp [hal] at hset; omega
   ·by_cases i1 : i = 1
    ·subst i1; simp at hset; omega
    ·rw [if_neg i0, if_neg i1] at hset
     simp only [decide_eq_true_eq] at hset
     apply hk; omega
 match i, hi with
 | 0, _ =>
  simp [hal] at hset
  rcases hset with e | e | e | e | e
  ·simp [stepO, e, part]
  ·simp [stepO, e, part]
  ·simp [stepO, e, part, uc (.inl e)]
  ·simp [stepO, e, part, u1 (by simp [e])]
  ·simp [stepO, e, part, u0 (by simp [e])]
 | 1, _ =>
  simp at hset
  rcases hset with e | e | e
  ·simp [stepO, e, part]
  ·simp [stepO, e, part, uc (.inr e)]
  ·simp [stepO, e, part, u0 (by simp [e])]
 | i + 2, _ =>
  simp at hset
  rcases hset.1 with e | e
  ·have := two s.a (.inl e)
   rw [u0 (by simp [e])] at this
   simp [stepO, e, u0 (by simp [e])]
   exact this
  ·have := two s.x (.inr e)
   rw [u1 (by simp [e])] at this
   simp [stepO, e, u1 (by simp [e])]
   exact this
theorem stepS_frame (s : St) (x : In4) (d : Da) (hs : s.m.length = 16) (i : Nat) (hi : i < 18) (h : setsP x i = false) : part (stepS s x d).1 i = part s i := by
 unfold stepS
 cases hal : (aluT x.op).2.2
 ·simp only [Bool.false_eq_true, if_false]; exact stepO_frame s x d hs hal i hi h
 ·simp only [if_true]
  split
  ·match i, hi with
   | 0, _ => simp [setsP, hal] at h
   | 1, _ => rfl
   | i + 2, _ => rfl
  ·rfl
theorem stepS_uses (s t : St) (x : In4) (d : Da) (hs : s.m.length = 16) (ht : t.m.length = 16) (h : ∀ i, i < 18 → usesP x i = true → part s i = part t i) :
  (stepS s x d).2 = (stepS t x d).2 ∧ ∀ i, i < 18 → setsP x i = true → part (stepS s x d).1 i = part (stepS t x d).1 i := by
 unfold stepS
 cases hal : (aluT x.op).2.2
 ·simp only [Bool.false_eq_true, if_false, true_and]
  exact fun i hi hset => stepO_uses s t x d hs ht h i hi hal hset
 ·have h0 : s.a = t.a := h 0 (by decide) (by simp [usesP, hal])
  have hb : aluB s x = aluB t x := by
   unfold aluB
   split
   ·rename_i hx; exact h 1 (by decide) (by simp [usesP, byXB, hx])
   ·rfl
  have hr : aluR s x = aluR t x := by unfold aluR; rw [h0, hb]
  simp only [if_true, hr, true_and]
  intro i hi hset
  split
  ·match i, hi with
   | 0, _ => rfl
   | 1, _ =>
    exfalso
    have key : ∀ p ∈ [4, 20, 36, 52, 68, 84, 100, 116, 164, 12, 28, 44, 60, 76, 92, 108, 124, (172 : Int)], decide (p ∈ [1, 97, (7 : Int)]) = false := by decide
    have := key _ (alu_two hal)
    simp only [setsP] at hset
    simp at hset this
    omega
   | i + 2, _ =>
    exfalso
    have key : ∀ p ∈ [4, 20, 36, 52, 68, 84, 100, 116, 164, 12, 28, 44, 60, 76, 92, 108, 124, (172 : Int)], ¬ p = 2 ∧ ¬ p = 3 := by decide
    have := key _ (alu_two hal)
    simp [setsP] at hset
    omega
  ·match i, hi with
   | 0, _ => exact h0
   | 1, _ =>
    exfalso
    have key : ∀ p ∈ [4, 20, 36, 52, 68, 84, 100, 116, 164, 12, 28, 44, 60, 76, 92, 108, 124, (172 : Int)], decide (p ∈ [1, 97, (7 : Int)]) = false := by decide
    have := key _ (alu_two hal)
    simp only [setsP] at hset
    simp at hset this
    omega
   | i + 2, _ =>
    exfalso
    have key : ∀ p ∈ [4, 20, 36, 52, 68, 84, 100, 116, 164, 12, 28, 44, 60, 76, 92, 108, 124, (172 : Int)], ¬ p = 2 ∧ ¬ p = 3 := by decide
    have := key _ (alu_two hal)
    simp [setsP] at hset
    omega
end Go.Ev
/- What is needed at each place: live.nexts, live.At, live.Behind. -/
namespace Go.Ev
open Go Go.RowKit
variable {G : Tbl}
set_option maxRecDepth 10000
set_option maxHeartbeats 2000000
set_option linter.unusedSimpArgs false
set_option linter.unusedVariables false
def offs (x : In4) : List Nat := if isEnd x.op then [] else if x.op = 5 then [x.k] else if isBr x.op then [x.jt.toNat, x.jf.toNat] else [0]
def ndL (p : Nat) : List In4 → List Bool
 | [] => []
 | x :: f => (usesP x p || ((offs x).any (fun o => (ndL p f).getD o false) && !setsP x p)) :: ndL p f
def nd (f : List In4) (p : Nat) : Bool := (ndL p f).headD false
theorem ndL_drop (p : Nat) : ∀ (f : List In4) (i : Nat), ndL p (f.drop i) = (ndL p f).drop i
 | f, 0 => rfl
 | [], i + 1 => by simp [ndL]
 | x :: f, i + 1 => by simp only [List.drop_succ_cons, ndL]; exact ndL_drop p f i
theorem nd_get (p : Nat) (f : List In4) (o : Nat) : (ndL p f).getD o false = nd (f.drop o) p := by
 unfold nd
 rw [ndL_drop, List.headD_eq_head?_getD, List.head?_drop]; rfl
theorem nd_cons (x : In4) (f : List In4) (p : Nat) : nd (x :: f) p = (usesP x p || ((offs x).any (fun o => nd (f.drop o) p) && !setsP x p)) := by
 simp only [nd, ndL, List.headD_cons]
 congr 2
 congr 1
 funext o
 exact nd_get p f o
def wd (f : List In4) : Nat := wordOf (nd f) 18
def needs : List In4 → List Nat
 | [] => []
 | x :: f => wd (x :: f) :: needs f
theorem needs_length : ∀ f : List In4, (needs f).length = f.length
 | [] => rfl
 | x :: f => by simp [needs, needs_length f]
theorem needs_get : ∀ (f : List In4) (i : Nat), i < f.length → (needs f)[i]? = some (wd (f.drop i))
 | x :: f, 0, _ => rfl
 | x :: f, i + 1, h => by
  simp only [needs, List.getElem?_cons_succ, List.drop_succ_cons]
  exact needs_get f i (by simpa using h)
def bh (g : List In4) (os : List Nat) (p : Nat) : Bool := os.any fun o => nd (g.drop o) p
theorem word_or (a b : Nat → Bool) : ∀ n, wordOf a n ||| wordOf b n = wordOf (fun p => a p || b p) n := by
 intro n
 refine Nat.eq_of_testBit_eq fun i => ?_
 rw [Nat.testBit_or, wordOf_bit, wordOf_bit, wordOf_bit]
 cases decide (i < n) <;> simp
theorem word_false : ∀ n, wordOf (fun _ => false) n = 0
 | 0 => rfl
 | n + 1 => by simp [wordOf, word_false n]
theorem bh_snoc (g : List In4) (os : List Nat) (o : Nat) : wordOf (bh g os) 18 ||| wd (g.drop o) = wordOf (bh g (os ++ [o])) 18 := by
 rw [wd, word_or]
 congr 1
 funext p
 simp [bh]
theorem wd_cons (x : In4) (g : List In4) : wordOf (fun p => usesP x p || (bh g (offs x) p && !setsP x p)) 18 = wd (x :: g) := by
 unfold wd
 congr 1
 funext p
 rw [nd_cons]; rfl
theorem word_andn (a b : Nat → Bool) (n : Nat) (hn : n ≤ 32) : andnI .u32 ((wordOf a n : Nat) : Int) ((wordOf b n : Nat) : Int) = ((wordOf (fun p => a p && !b p) n : Nat) : Int) := by
 have ha : wordOf a n < 2 ^ 32 := Nat.lt_of_lt_of_le (wordOf_lt a n) (Nat.pow_le_pow_right (by decide) hn)
 have hb : wordOf b n < 2 ^ 32 := Nat.lt_of_lt_of_le (wordOf_lt b n) (Nat.pow_le_pow_right (by decide) hn)
 unfold andnI
 rw [ofInt_nat, ofInt_nat]
 have : (BitVec.ofNat 32 (wordOf a n) &&& ~~~BitVec.ofNat 32 (wordOf b n)).toNat = wordOf (fun p => a p && !b p) n := by
  refine Nat.eq_of_testBit_eq fun i => ?_
  rw [BitVec.testBit_toNat, BitVec.getLsbD_and, BitVec.getLsbD_not, BitVec.getLsbD_ofNat, BitVec.getLsbD_ofNat, wordOf_bit, wordOf_bit, wordOf_bit]
  by_cases hi : i < n
  ·have : i < 32 := by omega
   simp [hi, this]
  ·simp [hi]
 show IntKind.u32.wrap _ = _
 rw [show IntKind.u32.bits = 32 from rfl, this]
 exact wrap_nat32 (Nat.lt_of_lt_of_le (wordOf_lt _ n) (Nat.pow_le_pow_right (by decide) hn))
theorem wd_lt (f : List In4) : wd f < 2 ^ 32 := Nat.lt_of_lt_of_le (wordOf_lt _ 18) (by decide)
def nextL (x : In4) (i : Nat) : List Int := (offs x).map fun (o : Nat) => ((i + 1 + o : Nat) : Int)
theorem nexts_ok [HasIns G] [HasLive G] (x : In4) (i : Nat) (hx : x.k < 4294967296) (hb : x.brOk) (hi : i ≤ 5000) : FP G 170 [IV x, .int .i64 i] (.vs (ints .i64 (nextL x i)) .no) := by
 refine FP_of HasLive.h_live_nexts (Nat.le_of_ble_eq_true rfl) ?_
 have he := Ends_ok (G := G) x
 have hbr := Branch_ok (G := G) x
 have a1 : addI .i64 (i : Int) 1 = (i : Int) + 1 := by rw [addI64] <;> omega
 simp [IV, In4.cs, a1] at he hbr ⊢
 refine callP_of he ?_
 cases h1 : isEnd x.op
 ·simp
  by_cases h5 : x.op = 5
  ·have a2 : addI .i64 ((i : Int) + 1) (x.k : Int) = ((i + 1 + x.k : Nat) : Int) := by rw [addI64] <;> omega
   have hb5 : (x.op == 5) = true := by simp [h5]
   simp [hb5, convI64 x.k hx, a1, a2]
   simp [nextL, offs, h1, h5, ints, isEnd]
  ·have hb5 : (x.op == 5) = false := beqF h5
   simp [hb5]
   refine callP_of hbr ?_
   cases h2 : isBr x.op
   ·simp [nextL, offs, h1, h5, h2, ints, a1]
   ·obtain ⟨b1, b2, b3, b4⟩ := hb h2
    have a3 : addI .i64 ((i : Int) + 1) x.jt = ((i + 1 + x.jt.toNat : Nat) : Int) := by rw [addI64] <;> omega
    have a4 : addI .i64 ((i : Int) + 1) x.jf = ((i + 1 + x.jf.toNat : Nat) : Int) := by rw [addI64] <;> omega
    simp [a1, a3, a4]
    simp [nextL, offs, h1, h5, h2, ints]
 ·simp [nextL, offs, h1, ints]
theorem okAll_at : ∀ {f : List In4} {i : Nat} {x : In4}, okAll f = true → f[i]? = some x → oneB x (f.length - 1 - i) = true
 | y :: f, 0, x, h, hg => by
  simp only [List.getElem?_cons_zero, Option.some.injEq] at hg
  subst hg
  simp only [okAll, Bool.and_eq_true] at h
  simpa using h.1
 | y :: f, i + 1, x, h, hg => by
  simp only [okAll, Bool.and_eq_true] at h
  have := okAll_at h.2 (by simpa using hg)
  rw [← this]
  congr 1
  simp only [List.length_cons]; omega
theorem sound_at {f : List In4} {i : Nat} {x : In4} (h : soundF f = true) (hg : f[i]? = some x) : oneB x (f.length - 1 - i) = true ∧ (isEnd x.op = false → i + 1 < f.length) ∧ f.length ≤ 4096 := by
 simp only [soundF, Bool.and_eq_true, decide_eq_true_eq] at h
 refine ⟨okAll_at h.1.2 hg, fun he => ?_, h.1.1⟩
 obtain ⟨hi, hx⟩ := List.getElem?_eq_some_iff.1 hg
 by_cases hl : i + 1 < f.length
 ·exact hl
 ·have : i = f.length - 1 := by omega
  have h2 := h.2
  have : f.getLast? = some x := by rw [List.getLast?_eq_getElem?, ← this]; exact hg
  simp only [endB, this] at h2
  rw [h2] at he; cases he
theorem sound_offs {f : List In4} {i : Nat} {x : In4} (h : soundF f = true) (hg : f[i]? = some x) {o : Nat} (ho : o ∈ offs x) : i + 1 + o < f.length := by
 obtain ⟨h1, h2, h3⟩ := sound_at h hg
 simp only [oneB, Bool.and_eq_true] at h1
 unfold offs at ho
 split at ho
 ·cases ho
 rename_i he
 have h2 := h2 (by simpa using he)
 split at ho
 ·rename_i h5
  simp only [List.mem_singleton] at ho
  subst ho
  have := h1.1.2
  rw [if_pos h5, decide_eq_true_eq] at this
  omega
 split at ho
 ·rename_i hb
  have hbr := right_br h1.1.1.1 hb
  have := h1.2
  rw [if_pos hb, decide_eq_true_eq] at this
  simp only [List.mem_cons, List.not_mem_nil, or_false] at ho
  rcases ho with rfl | rfl <;> omega
 ·simp only [List.mem_singleton] at ho
  omega
theorem offs_len (x : In4) : (offs x).length ≤ 2 := by unfold offs; split; simp; split; simp; split <;> simp
def cellsAt (f : List In4) (k : Nat) : List Nat := List.replicate k 0 ++ needs (f.drop k)
theorem cellsAt_len (f : List In4) (k : Nat) (h : k ≤ f.length) : (cellsAt f k).length = f.length := by simp [cellsAt, needs_length]; omega
theorem cellsAt_get (f : List In4) (k j : Nat) (h : k ≤ j) (hj : j < f.length) : (cellsAt f k)[j]? = some (wd (f.drop j)) := by
 rw [cellsAt, List.getElem?_append_right (by simpa using h)]
 rw [List.length_replicate, needs_get _ _ (by simp; omega), List.drop_drop]
 congr 3; omega
theorem cellsAt_set (f : List In4) (k : Nat) (hk : k < f.length) : (cellsAt f (k + 1)).set k (wd (f.drop k)) = cellsAt f k := by
 unfold cellsAt
 rw [List.replicate_succ', List.append_assoc, List.set_append_right _ _ (by simp)]
 rw [List.drop_eq_getElem_cons hk]
 simp only [List.length_replicate, Nat.sub_self, List.singleton_append, List.set_cons_zero]
 rfl
theorem At_ok [HasIns G] [HasCheck G] [HasTells G] [HasLive G] (f : List In4) (hk : ∀ x ∈ f, x.k < 4294967296) (hs : soundF f = true) : FP G 171 [FL f] (.tup [.vs (nats .u32 (needs f)) .no, .int .i64 0]) := by
 have hl : f.length ≤ 4096 := by simp only [soundF, Bool.and_eq_true, decide_eq_true_eq] at hs; exact hs.1.1
 have hm : maxLen = 9223372036854775807 := by decide
 refine FP_of HasLive.h_live_At (Nat.le_of_ble_eq_true rfl) ?_
 have h1 := Sound_ok (G := G) f (by omega) hk
 simp
 refine callP_of h1 ?_
 have s1 : subI .i64 (f.length : Int) 1 = (f.length : Int) - 1 := by rw [subI64] <;> omega
 simp (disch := omega) [hs, FL, s1, leTn]
 refine W_up f.length (fun i => [(0, FL f), (4, .rs 0 0 f.length 1), (5, .int .i64 ((f.length : Int) - 1 - i))]) (fun i => [some (.cells (cnats .u32 (cellsAt f (f.length - i))))]) (fun _ => True) ?_ ?_
 ·simp [keep_cl, trunc, FL, cellsAt, needs, zeros]
 intro i hi _
 by_cases hlt : i < f.length
 ·have ht : ∃ t, t = f.length - 1 - i := ⟨_, rfl⟩
  obtain ⟨t, ht⟩ := ht
  have e1 : (f.length : Int) - 1 - i = (t : Int) := by omega
  have e2 : f.length - i = t + 1 := by omega
  have e3 : f.length - (i + 1) = t := by omega
  have htl : t < f.length := by omega
  have hg : f[t]? = some f[t] := List.getElem?_eq_getElem htl
  have hgg := FL_get htl
  have hxm : f[t] ∈ f := List.getElem_mem htl
  have hdr := List.drop_eq_getElem_cons htl
  generalize f[t] = x at hg hgg hxm hdr
  have hkk := hk x hxm
  obtain ⟨o1, _, _⟩ := sound_at hs hg
  simp only [oneB, Bool.and_eq_true] at o1
  have hn := nexts_ok (G := G) x t hkk (right_br o1.1.1.1) (by omega)
  have hu := Uses_ok (G := G) x
  have hse := Sets_ok (G := G) x
  have hcs : x.cs = [.int .i64 x.op, .int .i64 x.jt, .int .i64 x.jf, .int .u32 (x.k : Int)] := rfl
  simp [IV, hcs] at hn hu hse
  simp (disch := omega) [e1, e2, ltT, FL, hgg, hcs, leT]
  refine callP_of hn ?_
  simp
  refine W_up (offs x).length (fun j => [(0, FL f), (4, .rs 0 0 f.length 1), (5, .int .i64 t), (6, .int .u32 (wordOf (bh (f.drop (t + 1)) ((offs x).take j)) 18 : Nat)), (27, .vs (ints .i64 (nextL x t)) .no), (28, .int .i64 (offs x).length), (29, .int .i64 j)])
   (fun _ => [some (.cells (cnats .u32 (cellsAt f (t + 1))))]) (fun _ => True) ?_ ?_
  ·have hb0 : wordOf (bh (f.drop (t + 1)) []) 18 = 0 := word_false 18
   simp [keep_cl, trunc, FL, hb0, nextL]
  intro j hj _
  have hol := offs_len x
  by_cases hjl : j < (offs x).length
  ·have hgo : (offs x)[j]? = some (offs x)[j] := List.getElem?_eq_getElem hjl
   have hom : (offs x)[j] ∈ offs x := List.getElem_mem hjl
   have hof := sound_offs hs hg hom
   have htk : (offs x).take (j + 1) = (offs x).take j ++ [(offs x)[j]] := by rw [List.take_add_one, hgo]; rfl
   have hng : (nextL x t)[j]? = some ((t + 1 + (offs x)[j] : Nat) : Int) := by simp [nextL, hgo]
   generalize (offs x)[j] = o at hgo hom hof htk hng
   have hread : ((cnats .u32 (cellsAt f (t + 1))).drop (t + 1 + o)).take 1 = [.int .u32 (wd (f.drop (t + 1 + o)) : Nat)] := by
    have hcl := cellsAt_len f (t + 1) (by omega)
    have hcg := cellsAt_get f (t + 1) (t + 1 + o) (by omega) hof
    rw [cnats_get _ _ _ (by omega)]
    rw [List.getElem?_eq_getElem (by omega), Option.some.injEq] at hcg
    rw [hcg]
   have hor : orI .u32 ((wordOf (bh (f.drop (t + 1)) ((offs x).take j)) 18 : Nat) : Int) ((wd (f.drop (t + 1 + o)) : Nat) : Int) = ((wordOf (bh (f.drop (t + 1)) ((offs x).take (j + 1))) 18 : Nat) : Int) := by
    rw [or32 (Nat.lt_of_lt_of_le (wordOf_lt _ 18) (by decide)) (wd_lt _), htk, ← bh_snoc, List.drop_drop]
   have hcl := cellsAt_len f (t + 1) (by omega)
   simp (disch := omega) [ltT, hng, hread, hcl, hor, leTn, FL, keep_cl, trunc, add1', hjl, -Int.natCast_add]
  ·have hne : j = (offs x).length := by omega
   subst hne
   rw [List.take_length]
   have hcl := cellsAt_len f (t + 1) (by omega)
   have hwd := wd_cons x (f.drop (t + 1))
   rw [← hdr] at hwd
   have hset := cellsAt_set f t htl
   have hlu : usesM x < 2 ^ 32 := Nat.lt_of_lt_of_le (wordOf_lt _ 18) (by decide)
   have hor : orI .u32 ((usesM x : Nat) : Int) (andnI .u32 ((wordOf (bh (f.drop (t + 1)) (offs x)) 18 : Nat) : Int) ((setsM x : Nat) : Int)) = ((wd (f.drop t) : Nat) : Int) := by
    rw [setsM, word_andn _ _ 18 (by decide), or32 hlu (Nat.lt_of_lt_of_le (wordOf_lt _ 18) (by decide)), usesM, word_or, hwd]
   have hcset := cnats_set .u32 (cellsAt f (t + 1)) t (wd (f.drop t)) (by omega)
   rw [hset] at hcset
   simp (disch := omega) [FL, hgg, hcs, ltT, leT, -Int.natCast_add]
   refine callP_of hu ?_
   simp (disch := omega) [FL, hgg, hcs, ltT, leT, -Int.natCast_add]
   refine callP_of hse ?_
   have s3 : subI .i64 (t : Int) 1 = (f.length : Int) - 1 - ((i + 1 : Nat) : Int) := by rw [subI64] <;> omega
   simp (disch := omega) [hor, hcl, leTn, hcset, htl, s3, keep_cl, trunc, hlt, e3, -Int.natCast_add]
 ·have hne : i = f.length := by omega
  subst hne
  have hF : ((f.length : Int) ≤ (f.length : Int) - 1) = False := eq_false (by omega)
  have hc : cellsAt f 0 = needs f := by simp [cellsAt]
  have hch : chunks 1 f.length (cnats .u32 (needs f)) = nats .u32 (needs f) := by rw [← needs_length f]; exact cnats_chunks .u32 (needs f)
  have hnl := needs_length f
  simp [hF, hc, hnl, take_full hnl, hch, leTn]
theorem Behind_ok [HasIns G] [HasCheck G] [HasTells G] [HasLive G] (f : List In4) (t : Nat) (x : In4) (hg : f[t]? = some x) (hk : ∀ x ∈ f, x.k < 4294967296) (hs : soundF f = true) :
  FP G 172 [FL f, .int .i64 t] (.tup [.int .u32 (wordOf (bh (f.drop (t + 1)) (offs x)) 18 : Nat), .int .i64 0]) := by
 refine FP_of HasLive.h_live_Behind (Nat.le_of_ble_eq_true rfl) ?_
 obtain ⟨htl, hx⟩ := List.getElem?_eq_some_iff.1 hg
 have hgg := FL_get htl
 have hxm : f[t] ∈ f := List.getElem_mem htl
 rw [hx] at hgg hxm
 have hkk := hk x hxm
 obtain ⟨o1, _, hlen⟩ := sound_at hs hg
 simp only [oneB, Bool.and_eq_true] at o1
 have hn := nexts_ok (G := G) x t hkk (right_br o1.1.1.1) (by omega)
 have hcs : x.cs = [.int .i64 x.op, .int .i64 x.jt, .int .i64 x.jf, .int .u32 (x.k : Int)] := rfl
 simp [IV, hcs] at hn
 simp
 refine callP_of (At_ok f hk hs) ?_
 have hF : ((f.length : Int) ≤ (t : Int)) = False := eq_false (by omega)
 simp (disch := omega) [hF, ltF, FL, hgg, hcs]
 refine callP_of hn ?_
 simp
 refine W_up (offs x).length (fun j => [(6, .vs (nats .u32 (needs f)) .no), (8, .int .u32 (wordOf (bh (f.drop (t + 1)) ((offs x).take j)) 18 : Nat)), (33, .vs (ints .i64 (nextL x t)) .no), (34, .int .i64 (offs x).length), (35, .int .i64 j)])
  (fun _ => []) (fun _ => True) ?_ ?_
 ·have hb0 : wordOf (bh (f.drop (t + 1)) []) 18 = 0 := word_false 18
  simp [keep_cl, trunc, FL, hb0, nextL]
 intro j hj _
 have hol := offs_len x
 by_cases hjl : j < (offs x).length
 ·have hgo : (offs x)[j]? = some (offs x)[j] := List.getElem?_eq_getElem hjl
  have hom : (offs x)[j] ∈ offs x := List.getElem_mem hjl
  have hof := sound_offs hs hg hom
  have htk : (offs x).take (j + 1) = (offs x).take j ++ [(offs x)[j]] := by rw [List.take_add_one, hgo]; rfl
  have hng : (nextL x t)[j]? = some ((t + 1 + (offs x)[j] : Nat) : Int) := by simp [nextL, hgo]
  generalize (offs x)[j] = o at hgo hom hof htk hng
  have hread := needs_get f (t + 1 + o) hof
  have hor : orI .u32 ((wordOf (bh (f.drop (t + 1)) ((offs x).take j)) 18 : Nat) : Int) ((wd (f.drop (t + 1 + o)) : Nat) : Int) = ((wordOf (bh (f.drop (t + 1)) ((offs x).take (j + 1))) 18 : Nat) : Int) := by
   rw [or32 (Nat.lt_of_lt_of_le (wordOf_lt _ 18) (by decide)) (wd_lt _), htk, ← bh_snoc, List.drop_drop]
  simp (disch := omega) [ltT, hng, hread, hor, leTn, FL, keep_cl, trunc, add1', hjl, -Int.natCast_add]
 ·have hne : j = (offs x).length := by omega
  subst hne
  simp
end Go.Ev
/- The law LiveLast. -/
namespace Go.Ev
open Go Go.RowKit
variable {G : Tbl}
set_option maxRecDepth 10000
set_option maxHeartbeats 2000000
set_option linter.unusedSimpArgs false
set_option linter.unusedVariables false
theorem sound_ne {f : List In4} (h : soundF f = true) : f ≠ [] := by
 rintro rfl; simp [soundF, endB] at h
end Go.Ev
/- What hurdleref07 says is needed. -/
namespace Go.Ev
open Go Go.RowKit
variable {G : Tbl}
set_option maxRecDepth 10000
set_option maxHeartbeats 2000000
set_option linter.unusedSimpArgs false
set_option linter.unusedVariables false
def cb (l : List Bool) : List V := l.map V.bool
@[simp] theorem cb_length (l : List Bool) : (cb l).length = l.length := by simp [cb]
@[simp] theorem cb_cl (n : Nat) (l : List Bool) : clL n (cb l) = cb l := by
 rw [clL_eq_map]; simp [cb, Function.comp_def]
theorem cb_set (l : List Bool) (i : Nat) (x : Bool) (h : i < l.length) : (cb l).take i ++ (V.bool x :: (cb l).drop (i + 1)) = cb (l.set i x) := by
 rw [cb, ← List.map_drop, ← List.map_take, List.set_eq_take_append_cons_drop, if_pos h]
 simp [cb]
@[simp] theorem cb_pure (l : List Bool) : (cb l).all V.pure = true := by simp [cb]
@[simp high] theorem ev1_mkslb (base : Nat) (e : Env) (H : Heap) (s bytes : Nat) (n : X) : ev1 base e H (.mksl s bytes [.bool false] n) = (match n.ev e with
  | .int _ m => if isFree H (base + s) = true ∧ 0 ≤ m ∧ m.toNat * bytes ≤ 140737488355328 then some (.rs (base + s) 0 m.toNat 1, H.set (base + s) (some (.cells (cb (List.replicate m.toNat false))))) else none
  | _ => none) := by
 have h : ∀ m : Nat, (List.replicate m [V.bool false]).flatten = cb (List.replicate m false) := fun m => by
  induction m with
  | zero => rfl
  | succ m ih => rw [List.replicate_succ, List.flatten_cons, ih]; simp [cb, List.replicate_succ]
 rw [ev1.eq_27]
 cases n.ev e <;> simp only [h, List.length_singleton]
theorem sound_br {f : List In4} {i : Nat} {x : In4} (h : soundF f = true) (hg : f[i]? = some x) : x.brOk := by
 have := (sound_at h hg).1
 simp only [oneB, Bool.and_eq_true] at this
 exact right_br this.1.1.1
end Go.Ev
/- Runs, by hurdleref06; and the law LiveRuns. -/
namespace Go.Ev
open Go Go.RowKit
variable {G : Tbl}
set_option maxRecDepth 10000
set_option maxHeartbeats 2000000
set_option linter.unusedSimpArgs false
set_option linter.unusedVariables false
def goes (s : St) (x : In4) : Nat := if x.op = 5 then x.k else if isBr x.op then (if takesB s x then x.jt.toNat else x.jf.toNat) else 0
def run (d : Da) (g : List In4) (s : St) : Nat × Nat :=
 match g with
 | [] => (0, 0)
 | x :: g => if x.op = 6 then (x.k, 1) else if x.op = 22 then (s.a, 1) else if (stepS s x d).2 then ((run d (g.drop (goes s x)) (stepS s x d).1).1, (run d (g.drop (goes s x)) (stepS s x d).1).2 + 1) else (0, 1)
termination_by g.length
decreasing_by all_goals (simp only [List.length_drop, List.length_cons]; omega)
theorem run_cons (d : Da) (x : In4) (g : List In4) (s : St) : run d (x :: g) s = if x.op = 6 then (x.k, 1) else if x.op = 22 then (s.a, 1) else if (stepS s x d).2 then ((run d (g.drop (goes s x)) (stepS s x d).1).1, (run d (g.drop (goes s x)) (stepS s x d).1).2 + 1) else (0, 1) := by
 rw [run]
theorem goes_offs {x : In4} (h : isEnd x.op = false) (s : St) : goes s x ∈ offs x := by
 unfold goes offs
 rw [h]
 simp only [Bool.false_eq_true, if_false]
 by_cases h5 : x.op = 5
 ·simp [h5]
 ·rw [if_neg h5, if_neg h5]
  split
  ·split <;> simp
  ·simp
theorem run_le (d : Da) : ∀ (n : Nat) (g : List In4) (s : St), g.length ≤ n → (run d g s).2 ≤ g.length
 | _, [], s, _ => by rw [run]; simp
 | 0, x :: g, s, h => by simp at h
 | n + 1, x :: g, s, h => by
  rw [run_cons]
  have := run_le d n (g.drop (goes s x)) (stepS s x d).1 (by simp at h ⊢; omega)
  rw [List.length_drop] at this
  rw [List.length_cons]
  split
  ·simp
  split
  ·simp
  split
  ·simp only; omega
  ·simp
theorem takes_agree {s t : St} {x : In4} (h : ∀ i, i < 18 → usesP x i = true → part s i = part t i) : takesB s x = takesB t x := by
 cases hb : isBr x.op
 ·rw [takes_none hb, takes_none hb]
 ·have h0 := h 0 (by decide) (by simp [usesP, hb])
  by_cases hx : x.op ∈ [29, 45, 61, 77]
  ·have h1 := h 1 (by decide) (by simp only [usesP, byXB, hx]; simp)
   simp only [part] at h0 h1
   simp only [takesB, h0, h1]
  ·simp only [part] at h0
   simp only [takesB, h0, hx, if_false]
theorem run_agree (d : Da) (hd : d.ok) : ∀ (n : Nat) (g : List In4) (s t : St), g.length ≤ n → s.ok → t.ok → (∀ x ∈ g, x.k < 4294967296) → (∀ p, p < 18 → nd g p = true → part s p = part t p) → run d g s = run d g t
 | _, [], s, t, _, _, _, _, _ => by rw [run, run]
 | 0, x :: g, s, t, h, _, _, _, _ => by simp at h
 | n + 1, x :: g, s, t, h, hs, ht, hk, hp => by
  have h1 := hk x (by simp)
  have hu : ∀ i, i < 18 → usesP x i = true → part s i = part t i := fun i hi hu => hp i hi (by rw [nd_cons, hu]; rfl)
  obtain ⟨e1, e2⟩ := stepS_uses s t x d hs.2.2.1 ht.2.2.1 hu
  rw [run_cons, run_cons]
  by_cases h6 : x.op = 6
  ·rw [if_pos h6, if_pos h6]
  rw [if_neg h6, if_neg h6]
  by_cases h22 : x.op = 22
  ·rw [if_pos h22, if_pos h22]
   have := hu 0 (by decide) (by simp [usesP, h22])
   simp only [part] at this
   rw [this]
  rw [if_neg h22, if_neg h22]
  have he : isEnd x.op = false := by simp [isEnd, h6, h22]
  have hg : goes s x = goes t x := by unfold goes; rw [takes_agree hu]
  have ho := goes_offs he t
  have hrc := run_agree d hd n (g.drop (goes t x)) (stepS s x d).1 (stepS t x d).1 (by simp at h ⊢; omega) (stepS_ok' hs h1 hd) (stepS_ok' ht h1 hd) (fun y hy => hk y (by simp [List.mem_of_mem_drop hy])) fun p hp18 hn => by
   cases hse : setsP x p
   ·rw [stepS_frame s x d hs.2.2.1 p hp18 hse, stepS_frame t x d ht.2.2.1 p hp18 hse]
    refine hp p hp18 ?_
    rw [nd_cons, hse]
    have : (offs x).any (fun o => nd (g.drop o) p) = true := List.any_eq_true.2 ⟨_, ho, hn⟩
    rw [this]; simp
   ·exact e2 p hp18 hse
  rw [hg, e1, hrc]
theorem From_ok [HasR2 G] [hR1 : HasR1 G] [HasR1n G] [HasR4 G] [HasR6s G] [HasR6 G] (f : List In4) (d : Da) (hk : ∀ x ∈ f, x.k < 4294967296) (hs : soundF f = true) (hd : d.ok) :
  ∀ (n t : Nat) (s : St), f.length - t ≤ n → t < f.length → s.ok → FP G 192 [FL f, SV s, .int .i64 t, DV d] (.tup [.int .u32 ((run d (f.drop t) s).1 : Nat), .int .i64 ((run d (f.drop t) s).2 : Nat)])
 | 0, t, s, h, ht, _ => by omega
 | n + 1, t, s, h, ht, hso => by
  refine FP_of HasR6.h_hurdleref06_From (Nat.le_of_ble_eq_true rfl) ?_
  have hg : f[t]? = some f[t] := List.getElem?_eq_getElem ht
  have hgg := FL_get ht
  have hxm : f[t] ∈ f := List.getElem_mem ht
  have hdr := List.drop_eq_getElem_cons ht
  obtain ⟨x, hfx⟩ : ∃ x, x = f[t] := ⟨_, rfl⟩
  rw [← hfx] at hg hgg hxm hdr
  have hfx := hfx.symm
  have hkk := hk x hxm
  obtain ⟨o1, o2, hlen⟩ := sound_at hs hg
  have hbo := sound_br hs hg
  have hcs : x.cs = [.int .i64 x.op, .int .i64 x.jt, .int .i64 x.jf, .int .u32 (x.k : Int)] := rfl
  have hbr := BranchR_ok (G := G) x
  have hta := TakesR_ok (G := G) s x hso hkk
  have hst := Step6_ok (G := G) s x d hso hkk hd
  have hl := hso.2.2.1
  have htk := take_full (k := .u32) hl
  have h6 := hd.2.2.2.1
  have ht6 := take_full (k := .u64) h6
  have a1 : addI .i64 (t : Int) 1 = ((t + 1 : Nat) : Int) := add1' (by omega)
  have hc := convI64 x.k hkk
  have hso2 := stepS_ok' hso hkk hd
  have hl2 := hso2.2.2.1
  have htk2 := take_full (k := .u32) hl2
  rw [hdr, run_cons]
  simp [SV, IV, DV, FL, hcs, St.cs, Da.cs] at hbr hta hst ⊢
  by_cases e6 : x.op = 6
  ·simp (disch := omega) [ltT, hgg, hfx, hcs, e6]
  have b6 : (x.op == 6) = false := beqF e6
  by_cases e22 : x.op = 22
  ·simp (disch := omega) [ltT, hgg, hfx, hcs, b6, e6, e22]
  have b22 : (x.op == 22) = false := beqF e22
  have he : isEnd x.op = false := by simp [isEnd, e6, e22]
  have hgo := sound_offs hs hg (goes_offs he s)
  have hrec := From_ok f d hk hs hd n (t + 1 + goes s x) (stepS s x d).1 (by omega) hgo hso2
  have hrl := run_le d _ (f.drop (t + 1 + goes s x)) (stepS s x d).1 (Nat.le_refl _)
  rw [List.length_drop] at hrl
  simp [SV, IV, DV, FL, hcs, St.cs, Da.cs, -Int.natCast_add] at hrec
  rw [show f.drop (t + 1 + goes s x) = (f.drop (t + 1)).drop (goes s x) by rw [List.drop_drop]] at hrec hrl
  have a2 : addI .i64 ((run d ((f.drop (t + 1)).drop (goes s x)) (stepS s x d).1).2 : Int) 1 = (((run d ((f.drop (t + 1)).drop (goes s x)) (stepS s x d).1).2 + 1 : Nat) : Int) := add1' (by omega)
  simp (disch := omega) [ltT, hgg, hfx, hcs, b6, b22, e6, e22, a1, -Int.natCast_add]
  have c1 : ∀ n : Nat, (V.int .u32 (n : Int)).cl 0 = .int .u32 n := fun _ => rfl
  by_cases h5 : x.op = 5
  ·have b5 : (x.op == 5) = true := by simp [h5]
   have hnb : isBr x.op = false := by rw [h5]; decide
   have hgg5 : goes s x = x.k := by simp [goes, h5]
   have a3 : addI .i64 ((t + 1 : Nat) : Int) (x.k : Int) = ((t + 1 + x.k : Nat) : Int) := addN (by omega)
   rw [hnb] at hbr
   rw [hgg5] at hrec a2 ⊢
   simp (disch := omega) [b5, hc, a3, -Int.natCast_add]
   refine callP_of hbr ?_
   simp (disch := omega) [hl, htk, h6, ht6, -Int.natCast_add]
   refine callP_of hst ?_
   cases hok : (stepS s x d).2
   ·simp [hl2, htk2]
   ·simp (disch := omega) [hl2, htk2, h6, ht6, -Int.natCast_add]
    refine callP_of hrec ?_
    rw [List.drop_drop] at a2
    simp [a2, -Int.natCast_add]
  have b5 : (x.op == 5) = false := beqF h5
  simp (disch := omega) [b5, -Int.natCast_add]
  refine callP_of hbr ?_
  cases hb : isBr x.op
  ·have hgg5 : goes s x = 0 := by simp [goes, h5, hb]
   rw [hgg5] at hrec a2 ⊢
   simp (disch := omega) [hl, htk, h6, ht6, -Int.natCast_add]
   refine callP_of hst ?_
   cases hok : (stepS s x d).2
   ·simp [hl2, htk2]
   ·simp (disch := omega) [hl2, htk2, h6, ht6, -Int.natCast_add]
    refine callP_of hrec ?_
    simp at a2 ⊢
    simp [a2]
  obtain ⟨b1, b2, b3, b4⟩ := hbo hb
  simp (disch := omega) [hl, htk, -Int.natCast_add]
  refine callP_of hta ?_
  cases htb : takesB s x
  ·have hgg5 : goes s x = x.jf.toNat := by simp [goes, h5, hb, htb]
   have a3 : addI .i64 ((t + 1 : Nat) : Int) x.jf = ((t + 1 + x.jf.toNat : Nat) : Int) := by rw [addI64] <;> omega
   rw [hgg5] at hrec a2 ⊢
   simp (disch := omega) [hl, htk, h6, ht6, a3, -Int.natCast_add]
   refine callP_of hst ?_
   cases hok : (stepS s x d).2
   ·simp [hl2, htk2]
   ·simp (disch := omega) [hl2, htk2, h6, ht6, -Int.natCast_add]
    refine callP_of hrec ?_
    rw [List.drop_drop] at a2
    simp [a2, -Int.natCast_add]
  ·have hgg5 : goes s x = x.jt.toNat := by simp [goes, h5, hb, htb]
   have a3 : addI .i64 ((t + 1 : Nat) : Int) x.jt = ((t + 1 + x.jt.toNat : Nat) : Int) := by rw [addI64] <;> omega
   rw [hgg5] at hrec a2 ⊢
   simp (disch := omega) [hl, htk, h6, ht6, a3, -Int.natCast_add]
   refine callP_of hst ?_
   cases hok : (stepS s x d).2
   ·simp [hl2, htk2]
   ·simp (disch := omega) [hl2, htk2, h6, ht6, -Int.natCast_add]
    refine callP_of hrec ?_
    rw [List.drop_drop] at a2
    simp [a2, -Int.natCast_add]
end Go.Ev
/- Records with another word; and branches whose ways are swapped. -/
namespace Go.Ev
open Go Go.RowKit
variable {G : Tbl}
set_option maxRecDepth 10000
set_option maxHeartbeats 2000000
set_option linter.unusedSimpArgs false
set_option linter.unusedVariables false
def two (w : List Nat) (i : Nat) : Nat := w.getD i 0 + w.getD (i + 1) 0 * 4294967296
def ofW (w : List Nat) : Da := ⟨w.getD 0 0, w.getD 1 0, two w 2, (List.range 6).map fun i => two w (4 + 2 * i)⟩
def withS (d : Da) (at' v : Nat) : Da := if at' % 4 = 0 ∧ at' < 64 then ofW ((wordsD d).set (at' / 4) v) else d
theorem words_of {w : List Nat} (hl : w.length = 16) (hw : ∀ x ∈ w, x < 4294967296) : wordsD (ofW w) = w := by
 match w, hl with
 | [a0, a1, a2, a3, a4, a5, a6, a7, a8, a9, a10, a11, a12, a13, a14, a15], _ =>
  simp only [List.mem_cons, List.not_mem_nil, or_false, forall_eq_or_imp, forall_eq] at hw
  simp only [wordsD, ofW, two, lo, hi, List.range_succ, List.range_zero, List.nil_append, List.map_append, List.map_cons, List.map_nil, List.cons_append, List.flatMap_cons, List.flatMap_nil, List.getD_cons_zero, List.getD_cons_succ, Nat.mul_zero, Nat.mul_one, Nat.reduceMul, Nat.reduceAdd, List.cons.injEq, and_true, true_and]
  and_intros <;> omega
theorem ofW_ok {w : List Nat} (hl : w.length = 16) (hw : ∀ x ∈ w, x < 4294967296) : (ofW w).ok := by
 have hg : ∀ i, w.getD i 0 < 4294967296 := by
  intro i
  rw [List.getD]
  cases h : w[i]? with
  | none => decide
  | some z => exact hw z (List.mem_of_getElem? h)
 have h2 : ∀ i, two w i < 18446744073709551616 := fun i => by
  have := hg i; have := hg (i + 1); unfold two; omega
 refine ⟨hg 0, hg 1, h2 2, by simp [ofW], fun x hx => ?_⟩
 simp only [ofW, List.mem_map] at hx
 obtain ⟨i, _, rfl⟩ := hx
 exact h2 _
theorem set_lt {l : List Nat} {i v n : Nat} (h : ∀ x ∈ l, x < n) (hv : v < n) : ∀ x ∈ l.set i v, x < n := fun x hx => by
 rcases List.mem_or_eq_of_mem_set hx with h1 | h1
 ·exact h x h1
 ·rw [h1]; exact hv
end Go.Ev
/- What run.Run and hurdleref06.Run compute. -/
namespace Go.Ev
open Go Go.RowKit
variable {G : Tbl}
set_option maxRecDepth 10000
set_option maxHeartbeats 2000000
set_option linter.unusedSimpArgs false
set_option linter.unusedVariables false
def St0 : St := ⟨0, 0, zeros 16⟩
theorem st0_ok : St0.ok := ⟨by decide, by decide, by simp [St0], fun w hw => by
 simp only [St0, zeros, List.mem_replicate] at hw
 omega⟩
theorem st0_cs : St0.cs = cnats .u32 (zeros 18) := rfl
theorem RunR_ok [HasR2 G] [hR1 : HasR1 G] [HasR1n G] [HasR4 G] [HasR6s G] [HasR6 G] [HasR6r G] (f : List In4) (d : Da) (hk : ∀ x ∈ f, x.k < 4294967296) (hs : soundF f = true) (hd : d.ok) :
  FP G 234 [FL f, DV d] (.tup [.int .u32 ((run d f St0).1 : Nat), .int .i64 ((run d f St0).2 : Nat)]) := by
 refine FP_of HasR6r.h_hurdleref06_Run (Nat.le_of_ble_eq_true rfl) ?_
 have h0 : 0 < f.length := by
  have := sound_ne hs
  cases f with
  | nil => exact absurd rfl this
  | cons => simp
 have hf := From_ok (G := G) f d hk hs hd _ 0 St0 (Nat.le_refl _) h0 st0_ok
 have h6 := hd.2.2.2.1
 have ht6 := take_full (k := .u64) h6
 simp [SV, st0_cs, FL, DV, Da.cs] at hf
 simp [FL, DV, Da.cs, h6, ht6]
 refine callP_of hf ?_
 simp
end Go.Ev
/- What data.With computes. -/
namespace Go.Ev
open Go Go.RowKit
variable {G : Tbl}
set_option maxRecDepth 10000
set_option maxHeartbeats 2000000
set_option linter.unusedSimpArgs false
set_option linter.unusedVariables false
theorem take3 (a b c : V) (l : List V) (n : Nat) : (a :: b :: c :: l).take (3 + n) = a :: b :: c :: l.take n := by rw [Nat.add_comm]; rfl
theorem drop3 (a b c : V) (l : List V) (n : Nat) : (a :: b :: c :: l).drop (3 + n) = l.drop n := by rw [Nat.add_comm]; rfl
theorem drop31 (a b c : V) (l : List V) (n : Nat) : (a :: b :: c :: l).drop (3 + n + 1) = l.drop (n + 1) := by rw [show 3 + n + 1 = (n + 1) + 3 by omega]; rfl
theorem drop32 (b c : V) (l : List V) (n : Nat) : (b :: c :: l).drop (3 + n) = l.drop (n + 1) := by rw [show 3 + n = (n + 1) + 2 by omega]; rfl
theorem two_or {w : List Nat} (hw : ∀ x ∈ w, x < 4294967296) (i : Nat) : orI .u64 ((w.getD i 0 : Nat) : Int) (shlI .u64 ((w.getD (i + 1) 0 : Nat) : Int) 32) = ((two w i : Nat) : Int) := by
 have hg : ∀ i, w.getD i 0 < 4294967296 := by
  intro i
  rw [List.getD]
  cases h : w[i]? with
  | none => decide
  | some z => exact hw z (List.mem_of_getElem? h)
 exact or_two _ _ (hg i) (hg (i + 1))
def ZD : List V := [.int .u32 0, .int .u32 0, .int .u64 0, .int .u64 0, .int .u64 0, .int .u64 0, .int .u64 0, .int .u64 0, .int .u64 0]
def HG (w : List Nat) (n : Nat) (a b c : Nat) (l : List Nat) : Heap := [some (.cells (cnats .u32 w)), some (.cells ZD), some (.cells [.int .i64 n]), some (.cells (.int .u32 (a : Int) :: .int .u32 (b : Int) :: .int .u64 (c : Int) :: cnats .u64 l))]
theorem get_ok [HasWith G] (w : List Nat) (n a b c : Nat) (l : List Nat) (hl : w.length = 16) (hw : ∀ x ∈ w, x < 4294967296) (hn : n + 1 < 16) :
  Big G (.F 231 [.ptr 0 0, .ptr 2 0] (HG w n a b c l) (.int .u64 (two w n : Nat)) (HG w (n + 2) a b c l)) := by
 have c1 := cnats_get .u32 w n (by omega)
 have c2 := cnats_get .u32 w (n + 1) (by omega)
 have d1 : w.getD n 0 = w[n] := by simp [List.getD, List.getElem?_eq_getElem (show n < w.length by omega)]
 have d2 : w.getD (n + 1) 0 = w[n + 1] := by simp [List.getD, List.getElem?_eq_getElem (show n + 1 < w.length by omega)]
 have ho := two_or hw n
 rw [d1, d2] at ho
 have l1 := hw _ (List.getElem_mem (show n < w.length by omega))
 have l2 := hw _ (List.getElem_mem (show n + 1 < w.length by omega))
 have v1 := convU w[n] (by omega)
 have v2 := convU w[n + 1] (by omega)
 have e1 : addI .i64 (n : Int) 1 = ((n + 1 : Nat) : Int) := add1' (by omega)
 have e2 : addI .i64 (n : Int) 2 = ((n + 2 : Nat) : Int) := addL (n := 2) (by omega)
 have i1 : ((n : Int) < 16) = True := ltT (by omega)
 have i2 : (((n + 1 : Nat) : Int) < 16) = True := ltT (by omega)
 have j1 : (n + 1 ≤ 16) = True := leTn (by omega)
 have j2 : (n + 1 + 1 ≤ 16) = True := leTn (by omega)
 have j3 : (n ≤ 14) = True := leTn (by omega)
 refine F_of HasWith.h_data_of_1 (Nat.le_of_ble_eq_true rfl) ?_
 simp [HG, ZD, e1, e2, i1, i2, j1, j2, j3, c1, c2, v1, v2, ho, hl, -Int.natCast_add]
def fillA (w : List Nat) (i : Nat) : List Nat := (List.range 6).map fun j => if j < i then two w (4 + 2 * j) else 0
theorem fillA_len (w : List Nat) (i : Nat) : (fillA w i).length = 6 := by simp [fillA]
theorem fillA_step (w : List Nat) {i : Nat} (hi : i < 6) : (fillA w i).set i (two w (4 + 2 * i)) = fillA w (i + 1) := by
 apply List.ext_getElem?
 intro j
 rw [List.getElem?_set, fillA_len]
 by_cases h : i = j
 ·subst h
  simp [fillA, hi]
 ·rw [if_neg h]
  by_cases hj : j < 6
  ·simp only [fillA, List.getElem?_map, List.getElem?_range hj, Option.map_some]
   by_cases h2 : j < i
   ·simp [h2, show j < i + 1 by omega]
   ·simp [h2, show ¬ j < i + 1 by omega]
  ·simp [fillA, hj]
theorem fillA_6 (w : List Nat) : fillA w 6 = (ofW w).args := by
 simp only [fillA, ofW]
 apply List.map_congr_left
 intro j hj
 simp [List.mem_range.1 hj]
theorem fillA_0 (w : List Nat) : fillA w 0 = zeros 6 := by
 simp [fillA, zeros, List.range_succ]
theorem of_ok' [HasWith G] (w : List Nat) (hl : w.length = 16) (hw : ∀ x ∈ w, x < 4294967296) : FP G 232 [.agg (cnats .u32 w)] (DV (ofW w)) := by
 refine FP_of HasWith.h_data_of (Nat.le_of_ble_eq_true rfl) ?_
 have htw := take_full (k := .u32) hl
 have c0 : (cnats .u32 w).take 1 = [.int .u32 (w[0] : Nat)] := by have := cnats_get .u32 w 0 (by omega); rwa [List.drop_zero] at this
 have c1 : (cnats .u32 w).tail.take 1 = [.int .u32 (w[1] : Nat)] := by have := cnats_get .u32 w 1 (by omega); rwa [List.drop_one] at this
 have c2 := cnats_get .u32 w 2 (by omega)
 have c3 := cnats_get .u32 w 3 (by omega)
 have d : ∀ i (h : i < 16), w.getD i 0 = w[i] := fun i h => by simp [List.getD, List.getElem?_eq_getElem (show i < w.length by omega)]
 have ho := two_or hw 2
 rw [d 2 (by omega), d 3 (by omega)] at ho
 have l2 := hw _ (List.getElem_mem (show 2 < w.length by omega))
 have l3 := hw _ (List.getElem_mem (show 3 < w.length by omega))
 have v2 := convU w[2] (by omega)
 have v3 := convU w[3] (by omega)
 simp [c0, c1, c2, c3, v2, v3, ho, hl, htw]
 refine W_up 6 (fun i => [(2, .ptr 1 0), (4, .fn 231 [.ptr 0 0, .ptr 2 0]), (5, .ptr 3 0), (21, .int .i64 i)])
  (fun i => HG w (4 + 2 * i) w[0] w[1] (two w 2) (fillA w i)) (fun _ => True) ?_ ?_
 ·have hz6 : cnats .u64 (zeros 6) = [.int .u64 0, .int .u64 0, .int .u64 0, .int .u64 0, .int .u64 0, .int .u64 0] := rfl
  simp [keep_cl, trunc, HG, ZD, fillA_0, hz6, hl, htw]
 intro i hi _
 by_cases hlt : i < 6
 ·have hg := get_ok (G := G) w (4 + 2 * i) w[0] w[1] (two w 2) (fillA w i) hl hw (by omega)
  have hfl := fillA_len w i
  have cs := cnats_set .u64 (fillA w i) i (two w (4 + 2 * i)) (by omega)
  rw [fillA_step w hlt] at cs
  simp [HG, ZD, -Int.natCast_add, -Int.natCast_mul] at hg
  simp (disch := omega) [ltT, leTn, HG, ZD, -Int.natCast_add, -Int.natCast_mul]
  refine callV_of hg (by simp) ?_
  simp (disch := omega) [trunc, take3, drop3, drop31, drop32, hfl, cs, ltT, leTn, add1', hlt, keep_cl, show 4 + 2 * (i + 1) = 4 + 2 * i + 2 from by omega, -Int.natCast_add, -Int.natCast_mul]
 ·have hne : i = 6 := by omega
  subst hne
  have h6 := fillA_6 w
  have h6l := fillA_len w 6
  have ht6 := take_full (k := .u64) h6l
  have e0 := d 0 (by omega)
  have e1 := d 1 (by omega)
  simp [HG, ZD, DV, Da.cs, h6l, ht6]
  rw [← h6]
  simp [ofW, hl]
theorem With_ok [HasData G] [HasWith G] (d : Da) (n v : Nat) (hd : d.ok) (hn : n < 4294967296) (hv : v < 4294967296) : FP G 233 [DV d, .int .u32 n, .int .u32 v] (DV (withS d n v)) := by
 refine FP_of HasWith.h_data_With (Nat.le_of_ble_eq_true rfl) ?_
 have hw := words_ok (G := G) d hd
 have ht := take_full (k := .u64) hd.2.2.2.1
 have h6 := hd.2.2.2.1
 simp [DV, Da.cs] at hw ⊢
 refine callP_of (there_ok n hn) ?_
 by_cases h : n % 4 = 0 ∧ n < 64
 ·have hq : quoI .u32 (n : Int) 4 = ((n / 4 : Nat) : Int) := quo32 (b := 4) hn (by decide)
  have hl := wordsD_len h6
  have htw := take_full (k := .u32) hl
  have cs := cnats_set .u32 (wordsD d) (n / 4) v (by omega)
  have hl2 : ((wordsD d).set (n / 4) v).length = 16 := by rw [List.length_set]; exact hl
  have htw2 := take_full (k := .u32) hl2
  have hof := of_ok' (G := G) ((wordsD d).set (n / 4) v) hl2 (set_lt (wordsD_lt hd) hv)
  have ho6 : (ofW ((wordsD d).set (n / 4) v)).args.length = 6 := by simp [ofW]
  have ht2 := take_full (k := .u64) ho6
  simp [DV, Da.cs] at hof
  simp [h, h6, ht, withS]
  refine callP_of hw ?_
  simp (disch := omega) [hq, ltT, leTn, hl, htw, cs, hl2, htw2, -Int.natCast_ediv]
  refine callP_of hof ?_
  simp [ho6, ht2]
 ·simp [h, withS, h6, ht]
end Go.Ev
/- Windows that are run, and their variables' numbers: plain. -/
namespace Go.Ev
open Go Go.RowKit
variable {G : Tbl}
set_option maxRecDepth 10000
set_option maxHeartbeats 2000000
set_option linter.unusedSimpArgs false
set_option linter.unusedVariables false
def runW (d : Da) : List In4 → St → St × Nat
 | [], s => (s, 0)
 | x :: w, s => if (stepS s x d).2 then ((runW d w (stepS s x d).1).1, (runW d w (stepS s x d).1).2 + 1) else (s, 0)
theorem runW_le (d : Da) : ∀ (w : List In4) (s : St), (runW d w s).2 ≤ w.length
 | [], s => Nat.zero_le _
 | x :: w, s => by
  have := runW_le d w (stepS s x d).1
  simp only [runW, List.length_cons]
  split
  ·simp only; omega
  ·simp
theorem runW_ok {d : Da} (hd : d.ok) : ∀ (w : List In4) (s : St), s.ok → (∀ x ∈ w, x.k < 4294967296) → (runW d w s).1.ok
 | [], s, hs, _ => hs
 | x :: w, s, hs, hk => by
  have := runW_ok hd w (stepS s x d).1 (stepS_ok' hs (hk x (by simp)) hd) (fun y hy => hk y (by simp [hy]))
  simp only [runW]
  split
  ·exact this
  ·exact hs
def asgL (s : St) (d : Da) : List Nat := s.a :: s.x :: (s.m ++ wordsD d)
def stO (v : List Nat) : St := ⟨v.getD 0 0, v.getD 1 0, (v.drop 2).take 16⟩
theorem asgL_len {s : St} {d : Da} (hs : s.ok) (hd : d.ok) : (asgL s d).length = 34 := by
 simp [asgL, hs.2.2.1, wordsD_len hd.2.2.2.1]
theorem asgL_lt {s : St} {d : Da} (hs : s.ok) (hd : d.ok) : ∀ x ∈ asgL s d, x < 4294967296 := by
 intro x hx
 simp only [asgL, List.mem_cons, List.mem_append] at hx
 rcases hx with rfl | rfl | hx | hx
 ·exact hs.1
 ·exact hs.2.1
 ·exact hs.2.2.2 x hx
 ·exact wordsD_lt hd x hx
def wAt (v : List Nat) (i : Nat) : List Nat := (v.drop 18).take i ++ zeros (16 - i)
theorem wAt_len {v : List Nat} (hl : v.length = 34) {i : Nat} (hi : i ≤ 16) : (wAt v i).length = 16 := by
 simp [wAt, hl]; omega
theorem wAt_lt {v : List Nat} (hv : ∀ x ∈ v, x < 4294967296) (i : Nat) : ∀ x ∈ wAt v i, x < 4294967296 := by
 intro x hx
 simp only [wAt, List.mem_append, zeros, List.mem_replicate] at hx
 rcases hx with hx | hx
 ·exact hv x (List.mem_of_mem_drop (List.mem_of_mem_take hx))
 ·omega
theorem wAt_set {v : List Nat} (hl : v.length = 34) {i : Nat} (hi : i < 16) : (wAt v i).set i (v[18 + i]'(by omega)) = wAt v (i + 1) := by
 apply List.ext_getElem?
 intro j
 have hg : ∀ i, i ≤ 16 → ∀ j, (wAt v i)[j]? = if j < i then v[18 + j]? else if j < 16 then some 0 else none := by
  intro i hi j
  rw [wAt, List.getElem?_append, List.length_take, List.length_drop, hl, List.getElem?_take, List.getElem?_drop]
  by_cases h1 : j < i
  ·rw [if_pos (by omega), if_pos h1, if_pos h1]
  ·rw [if_neg (by omega), if_neg h1]
   by_cases h2 : j < 16
   ·rw [if_pos h2]; simp [zeros, List.getElem?_replicate]; omega
   ·rw [if_neg h2]; simp [zeros, List.getElem?_replicate]; omega
 rw [List.getElem?_set, wAt_len hl (by omega), hg i (by omega), hg (i + 1) (by omega)]
 by_cases e : i = j
 ·subst e
  rw [if_pos rfl, if_pos hi, if_pos (by omega), List.getElem?_eq_getElem (by omega)]
 ·rw [if_neg e]
  by_cases h1 : j < i
  ·rw [if_pos h1, if_pos (by omega)]
  ·rw [if_neg h1]
   by_cases h2 : j < i + 1
   ·omega
   ·rw [if_neg h2]
theorem with_wAt {v : List Nat} (hl : v.length = 34) (hv : ∀ x ∈ v, x < 4294967296) {i : Nat} (hi : i < 16) : withS (ofW (wAt v i)) (4 * i) (v[18 + i]'(by omega)) = ofW (wAt v (i + 1)) := by
 rw [withS, if_pos ⟨by omega, by omega⟩, words_of (wAt_len hl (by omega)) (wAt_lt hv i), show 4 * i / 4 = i by omega, wAt_set hl hi]
theorem wAt_16 {v : List Nat} (hl : v.length = 34) : wAt v 16 = v.drop 18 := by
 rw [wAt, show zeros (16 - 16) = [] from rfl, List.append_nil, List.take_of_length_le (by simp [hl])]
theorem wAt_0 (v : List Nat) : wAt v 0 = zeros 16 := by simp [wAt]
theorem asgL_drop {s : St} {d : Da} (hs : s.ok) : (asgL s d).drop 18 = wordsD d := by
 simp only [asgL, List.drop_succ_cons]
 rw [List.drop_left' hs.2.2.1]
theorem stO_ok {v : List Nat} (hl : v.length = 34) (hv : ∀ x ∈ v, x < 4294967296) : (stO v).ok := by
 have hg : ∀ i, v.getD i 0 < 4294967296 := by
  intro i
  rw [List.getD]
  cases h : v[i]? with
  | none => decide
  | some z => exact hv z (List.mem_of_getElem? h)
 exact ⟨hg 0, hg 1, by simp [stO, hl], fun x hx => hv x (List.mem_of_mem_drop (List.mem_of_mem_take hx))⟩
end Go.Ev
/- Windows that are run, by window and by hurdleref17; the laws WindowRuns, WindowRows, WindowNone. -/
namespace Go.Ev
open Go Go.RowKit
variable {G : Tbl}
set_option maxRecDepth 10000
set_option maxHeartbeats 4000000
set_option linter.unusedSimpArgs false
set_option linter.unusedVariables false
theorem WinRun_ok [HasWd G] [HasNeg G] [HasIns G] [HasCheck G] [HasData G] [HasStep G] [HasWRight G] [HasWinRun G] (w : List In4) (s : St) (d : Da) (hf : w.length ≤ maxLen) (hk : ∀ x ∈ w, x.k < 4294967296) (hs : s.ok) (hd : d.ok) (hw : winB w = true) :
  FP G 292 [FL w, SV s, DV d] (.tup [SV (runW d w s).1, .int .i64 ((runW d w s).2 : Nat)]) := by
 refine FP_of HasWinRun.h_window_Run (Nat.le_of_ble_eq_true rfl) ?_
 have hr := WRight_ok (G := G) w hf hk
 rw [hw] at hr
 have hwl : w.length ≤ 32 := by simp only [winB, Bool.and_eq_true, decide_eq_true_eq] at hw; exact hw.1
 have hl := hs.2.2.1
 have htk := take_full (k := .u32) hl
 have h6 := hd.2.2.2.1
 have ht6 := take_full (k := .u64) h6
 obtain ⟨R, hR⟩ : ∃ R, R = runW d w s := ⟨_, rfl⟩
 have hRl := runW_le d w s
 have hRo := runW_ok hd w s hs hk
 rw [← hR] at hRl hRo ⊢
 simp [FL] at hr
 simp [FL, SV, DV, St.cs, Da.cs]
 refine callP_of hr ?_
 simp [hl, htk]
 refine W_state (fun z : St × Nat => w.length - z.2) (fun z => [(0, FL w), (4, .ptr 0 0), (5, .ptr 1 0), (6, .ptr 2 0), (16, FL w), (17, .int .i64 w.length), (18, .int .i64 z.2)])
  (fun z => [some (.cells z.1.cs), some (.cells d.cs), some (.cells (cnats .u32 (zeros 18)))])
  (fun z => z.2 ≤ w.length ∧ z.1.ok ∧ (runW d (w.drop z.2) z.1).1 = R.1 ∧ z.2 + (runW d (w.drop z.2) z.1).2 = R.2) (s, 0) ?_ ?_
 ·refine ⟨⟨Nat.zero_le _, hs, by simp [hR], by simp [hR]⟩, ?_, ?_⟩
  ·simp [keep_cl, FL]
  ·simp [trunc, Da.cs, St.cs]
 rintro ⟨t, i⟩ ⟨hi, ht, hr1, hr2⟩
 simp only at hi ht hr1 hr2
 have hl1 := ht.2.2.1
 have htk1 := take_full (k := .u32) hl1
 by_cases hlt : i < w.length
 ·obtain ⟨x, hfx⟩ : ∃ x, x = w[i] := ⟨_, rfl⟩
  have hg : w[i]? = some x := by rw [List.getElem?_eq_getElem hlt, hfx]
  have hgv := hfx.symm
  have hdr := List.drop_eq_getElem_cons hlt
  rw [hgv] at hdr
  have hkk := hk x (hgv ▸ List.getElem_mem hlt)
  have hcs : x.cs = [.int .i64 x.op, .int .i64 x.jt, .int .i64 x.jf, .int .u32 (x.k : Int)] := rfl
  have hst := Step_ok (G := G) t x d ht hkk hd
  have hso := stepS_ok' ht hkk hd
  have hl2 := hso.2.2.1
  have htk2 := take_full (k := .u32) hl2
  have hdf := drop_full (k := .u32) hl1
  have hz16 : cnats .u32 (zeros 18) = .int .u32 0 :: .int .u32 0 :: cnats .u32 (zeros 16) := rfl
  rw [hdr] at hr1 hr2
  simp only [runW] at hr1 hr2
  simp [SV, IV, DV, hcs, St.cs, Da.cs] at hst
  simp (disch := omega) [ltT, FL, hg, hgv, hcs, St.cs, Da.cs, hl1, htk1, h6, ht6, -Int.natCast_add]
  refine callP_of hst ?_
  cases hok : (stepS t x d).2
  ·rw [hok] at hr1 hr2
   simp only [Bool.false_eq_true, if_false] at hr1 hr2
   simp [hl1, htk1, hl2, htk2, hdf, hz16, -Int.natCast_add]
   rw [← hr1, ← hr2]
   simp [St.cs]
  ·rw [hok] at hr1 hr2
   simp only [if_true] at hr1 hr2
   simp (disch := omega) [hl1, htk1, hl2, htk2, hdf, add1', -Int.natCast_add]
   refine ⟨((stepS t x d).1, i + 1), by simp only; omega, ⟨by simp only; omega, hso, hr1, by simp only; omega⟩, ?_, ?_⟩
   ·simp [keep_cl, FL, -Int.natCast_add]
   ·simp [trunc, Da.cs, St.cs, hl1, htk1, hl2, htk2, hdf]
 ·have hne : i = w.length := by omega
  subst hne
  rw [List.drop_length] at hr1 hr2
  simp only [runW] at hr1 hr2
  have hz16 : cnats .u32 (zeros 18) = .int .u32 0 :: .int .u32 0 :: cnats .u32 (zeros 16) := rfl
  simp [FL, St.cs, Da.cs, hl1, htk1, hz16]
  rw [← hr1, ← hr2]
  simp [St.cs]
end Go.Ev
