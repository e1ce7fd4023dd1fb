/- Arithmetic in a book. -/
import Derived.Test.YtkodfphojbfieaaGreatDoorDataAW
import Derived.Test.YtkodfphojbfieaaGreatDoorInsAW
import Derived.Test.YtkodfphojbfieaaGreatDoorEvBitsCW
set_option linter.unusedVariables false
set_option linter.unusedSimpArgs false
namespace Go.Ev
open Go Go.RowKit
variable {G : Tbl}
set_option maxRecDepth 10000
set_option maxHeartbeats 4000000
set_option linter.unusedSimpArgs false
set_option linter.unusedVariables false
variable {H : Heap} {b z m : Nat} {L : List Nd}
theorem HShut.app2 {H : Heap} (h : HShut H) {r : Heap} (hr : ∀ n, (H ++ r).length ≤ n → r.map (Option.map (Blk.cl n)) = r) : HShut (H ++ r) := by
 intro m hm
 rw [List.map_append, hr m hm, h m (by rw [List.length_append] at hm; omega)]
theorem Bk.app2 (h : Bk H b z m L) {r : Heap} (hr : ∀ n, (H ++ r).length ≤ n → r.map (Option.map (Blk.cl n)) = r) : Bk (H ++ r) b z m L :=
 ⟨by rw [List.getElem?_append_left h.lb]; exact h.hb, by rw [List.getElem?_append_left h.lz]; exact h.hz, by rw [List.getElem?_append_left h.lm]; exact h.hm, h.shut.app2 hr, h.ok, h.small⟩
theorem Bk.to (h : Bk H b z m L) {L' : List Nd} (hi : Inv L') (hs : L'.length ≤ 1000000) : Bk (upd H b z m L') b z m L' := h.upd_bk hi.ok hs
theorem upd_other (h : Bk H b z m L) {L' : List Nd} {p : Nat} {c : List V} (hp : H[p]? = some (some (.cells c))) (hb : p ≠ b) : (upd H b z m L')[p]? = some (some (.cells c)) := by
 unfold upd
 have h1 : m ≠ p := fun e => by subst e; rw [h.hm] at hp; simp at hp
 have h2 : z ≠ p := fun e => by subst e; rw [h.hz] at hp; simp at hp
 rw [List.getElem?_set_ne h1, List.getElem?_set_ne h2, List.getElem?_set_ne (Ne.symm hb)]
 exact hp
def swapsB (kind : Int) : Bool := decide (kind ≠ 20 ∧ kind ≠ 52 ∧ kind ≠ 100 ∧ kind ≠ 116)
def deedNd (kind : Int) (x y : Nat) : Nd := { Nd0 with kind := 2, op := kind, x := x, y := y }
noncomputable def bAlu2 (L : List Nd) (kind : Int) (x y : Nat) (a c : Nd) : Int × List Nd :=
 let s1 := sumsN L kind a c
 let s2 := bothN s1.2.2 kind a c
 let s3 := plainN kind (constA c) x y
 let s4 := plainN kind (constA a) y x
 if s1.2.1 = true then (s1.1, s1.2.2) else if s2.2.1 = true then (s2.1, s2.2.2) else if s3.2 = true then (s3.1, s1.2.2)
 else if swapsB kind = true ∧ s4.2 = true then (s4.1, s1.2.2)
 else if swapsB kind = true ∧ y < x then putN s1.2.2 (deedNd kind y x) else putN s1.2.2 (deedNd kind x y)
noncomputable def bAlu (L : List Nd) (kind x y : Int) : Int × List Nd :=
 if (doW kind 0 1).2 = true ∧ hasI L x = true ∧ hasI L y = true then (match L[x.toNat]?, L[y.toNat]? with | some a, some c => bAlu2 L kind x.toNat y.toNat a c | _, _ => (-1, L)) else (-1, L)
theorem bothN_L (L : List Nd) (kind : Int) (a c : Nd) (h : (bothN L kind a c).2.1 = false) : (bothN L kind a c).2.2 = L := by
 cases e1 : asB a with
 | none => simp [bothN, e1, noR]
 | some p =>
  cases e2 : asB c with
  | none => simp [bothN, e1, e2, noR]
  | some q =>
   cases e3 : bdo kind p q with
   | none => simp [bothN, e1, e2, e3, noR]
   | some r => simp [bothN, e1, e2, e3, okP] at h
section
variable {K : Heap} {kind : Int} {x y p0 p1 p2 p3 p4 : Nat} {a c : Nd}
theorem Alu1_ok [HasWd G] [HasAffine G] [HasSym G] (h : Bk K b z m L) (hs : L.length < 1000000) (hx : L[x]? = some a) (hy : L[y]? = some c) (ha : a.wf) (hc : c.wf)
  (h0 : K[p0]? = some (some (.cells [.ptr b 0]))) (h1 : K[p1]? = some (some (.cells [.int .i64 kind]))) (h2 : K[p2]? = some (some (.cells [.int .i64 x]))) (h3 : K[p3]? = some (some (.cells [.int .i64 y]))) :
  SF G 270 [.ptr p0 0, .ptr p1 0, .ptr p2 0, .ptr p3 0] K (.tup [.int .i64 (sumsN L kind a c).1, .bool (sumsN L kind a c).2.1]) (upd K b z m (sumsN L kind a c).2.2) := by
 refine SF_of HasSym.h_sym_Book_Alu_1 (Nat.le_of_ble_eq_true rfl) ?_
 have hbk := h.back (sumsN L kind a c).2.2 []
 simp at hbk
 simp [h0, h1, h2, h3]
 refine callSF_of (sums_ok kind x y a c h hs hx hy ha hc) ?_
 simp [hbk]
theorem Alu2_ok [HasAffine G] [HasBits G] [HasSym G] (h : Bk K b z m L) (hs : L.length < 1000000) (hx : L[x]? = some a) (hy : L[y]? = some c) (ha : a.wf) (hc : c.wf)
  (h0 : K[p0]? = some (some (.cells [.ptr b 0]))) (h1 : K[p1]? = some (some (.cells [.int .i64 kind]))) (h2 : K[p2]? = some (some (.cells [.int .i64 x]))) (h3 : K[p3]? = some (some (.cells [.int .i64 y]))) :
  SF G 271 [.ptr p0 0, .ptr p1 0, .ptr p2 0, .ptr p3 0] K (.tup [.int .i64 (bothN L kind a c).1, .bool (bothN L kind a c).2.1]) (upd K b z m (bothN L kind a c).2.2) := by
 refine SF_of HasSym.h_sym_Book_Alu_2 (Nat.le_of_ble_eq_true rfl) ?_
 have hbk := h.back (bothN L kind a c).2.2 []
 simp at hbk
 simp [h0, h1, h2, h3]
 refine callSF_of (Bboth_ok kind x y a c h hs hx hy ha hc) ?_
 simp [hbk]
theorem Alu3_ok [HasAffine G] [HasSym G] (h : Bk K b z m L)
  (h0 : K[p0]? = some (some (.cells [.ptr b 0]))) (h1 : K[p1]? = some (some (.cells [.int .i64 kind]))) (h2 : K[p2]? = some (some (.cells [.int .i64 x]))) (h3 : K[p3]? = some (some (.cells [.int .i64 y]))) :
  SF G 272 [.ptr p0 0, .ptr p1 0, .ptr p2 0, .ptr p3 0] K (.tup [.int .i64 (plainN kind (constI L y) x y).1, .bool (plainN kind (constI L y) x y).2]) K := by
 refine SF_of HasSym.h_sym_Book_Alu_3 (Nat.le_of_ble_eq_true rfl) ?_
 have hbk := h.shut.self
 simp [h0, h1, h2, h3]
 refine callSF_of (plain_ok' kind x y h) ?_
 simp [hbk]
theorem Alu4_ok [HasAffine G] [HasSym G] (sw : Bool) (h : Bk K b z m L) (h4 : K[p4]? = some (some (.cells [.bool sw])))
  (h0 : K[p0]? = some (some (.cells [.ptr b 0]))) (h1 : K[p1]? = some (some (.cells [.int .i64 kind]))) (h2 : K[p2]? = some (some (.cells [.int .i64 x]))) (h3 : K[p3]? = some (some (.cells [.int .i64 y]))) :
  SF G 273 [.ptr p4 0, .ptr p0 0, .ptr p1 0, .ptr p3 0, .ptr p2 0] K (.tup [.int .i64 (if sw = true then (plainN kind (constI L x) y x).1 else 0), .bool (sw && (plainN kind (constI L x) y x).2)]) K := by
 refine SF_of HasSym.h_sym_Book_Alu_4 (Nat.le_of_ble_eq_true rfl) ?_
 have hbk := h.shut.self
 cases sw
 ·simp [h0, h1, h2, h3, h4, hbk]
 ·simp [h0, h1, h2, h3, h4]
  refine callSF_of (plain_ok' kind y x h) ?_
  simp [hbk]
end
theorem sums_ext {kind : Int} {a c : Nd} (h : Inv L) (ha : a.ok) (hc : c.ok) (haw : a.wf) (hcw : c.wf) : Ext L (sumsN L kind a c).2.2 1 := by
 have no : Ext L (noR L).2.2 1 := .refl h 1
 have yes : ∀ f : List Nat, f.length = 35 → (∀ x ∈ f, x < 4294967296) → Ext L (okP (putN L (sumNd f))).2.2 1 := fun f hf hw => (put_ext h (sum_good hf hw _)).1
 rw [sumsN]
 split
 ·split
  ·exact yes _ (fAdd_len ha.1 hc.1) (fAdd_lt _ _)
  ·split
   ·exact yes _ (fSub_len ha.1 hc.1) (fSub_lt _ _)
   ·split
    ·rename_i u v eu ev
     split
     ·exact yes _ (fMul_len _ ha.1) (fMul_lt _ _)
     ·split
      ·exact yes _ (fMul_len _ ha.1) (fMul_lt _ _)
      ·exact (put_ext h (sum_good (by simp) (const_lt (doW32 kind (fConst_lt eu haw.1) (fConst_lt ev hcw.1))) _)).1
    ·split
     ·exact yes _ (fMul_len _ ha.1) (fMul_lt _ _)
     ·split
      ·exact yes _ (fMul_len _ ha.1) (fMul_lt _ _)
      ·exact no
    ·split
     ·exact yes _ (fMul_len _ hc.1) (fMul_lt _ _)
     ·exact no
    ·exact no
 ·exact no
theorem constI_at {y : Nat} {c : Nd} (hy : L[y]? = some c) : constI L y = constA c := by
 have hl := (List.getElem?_eq_some_iff.1 hy).1
 have hh : hasI L y = true := by simp [hasI]; exact hl
 simp [constI, hh, hy]
theorem callVSF_of {f : Nat} {cap args : List V} {r : V} {H' : Heap} {base : Nat} {d : Option Nat} {os : List SOper} {K : List Kt} {e : Env} {Q : Ex → Env → Heap → Prop} (h : SF G f (args ++ cap) H r H')
  (hr : WO G base os K (e.put d r) H' Q) : callV G false (.fn f cap) args base d os K e H Q := by
 obtain ⟨r1, H1, hb, hr1, ht⟩ := h
 refine callV_of hb (by simp) ?_
 rw [hr1, ht]
 exact hr
theorem BAlu_ok [HasWd G] [HasAffine G] [HasBits G] [HasSym G] (kind x y : Int) (h : Bk H b z m L) (hi : Inv L) (hs : L.length < 999990) : BF G 274 [.int .i64 kind, .int .i64 x, .int .i64 y] H b z m (bAlu L kind x y) := by
 refine SF_of HasSym.h_sym_Book_Alu (Nat.le_of_ble_eq_true rfl) ?_
 obtain ⟨B0, hB0⟩ : ∃ B0 : Heap, B0 = [some (.cells [.ptr b 0]), some (.cells [.int .i64 kind]), some (.cells [.int .i64 x]), some (.cells [.int .i64 y])] := ⟨_, rfl⟩
 have hbl : ∀ n, H.length ≤ n → b < n := fun n hn => by have := h.lb; omega
 have h1 : Bk (H ++ [some (.cells [.ptr b 0]), some (.cells [.int .i64 kind]), some (.cells [.int .i64 x]), some (.cells [.int .i64 y])]) b z m L := h.app2 fun n hn => by simp [Blk.cl, clL, V.cl]; exact hbl n (by simp at hn; omega)
 have hs1 := h1.shut.self
 have hsh := h.shut.back
 have hus := h.upd_self
 simp at hs1
 have hdo := doW_ok (G := G) (by infer_instance) kind 0 1 (by decide) (by decide)
 simp at hdo
 have hno : ∀ p : Prop, bAlu L kind x y = (-1, L) → p → (bAlu L kind x y).1 = -1 ∧ upd H b z m (bAlu L kind x y).2 = H := fun p e _ => by rw [e]; exact ⟨rfl, hus⟩
 simp [ap0, apk]
 refine callP_of hdo ?_
 simp [ap0, apk]
 cases hok : (doW kind 0 1).2 with
 | false =>
  have hR : bAlu L kind x y = (-1, L) := by rw [bAlu, if_neg (by simp [hok])]
  simp [hR, hus, hsh, ap0, apk]
 | true =>
  simp [ap0, apk]
  refine callSF_of (hasF_ok x h1) ?_
  cases hx : hasI L x with
  | false =>
   have hR : bAlu L kind x y = (-1, L) := by rw [bAlu, if_neg (by simp [hx])]
   simp [hR, hus, hsh, ap0, apk]
  | true =>
   simp [ap0, apk]
   refine callSF_of (hasF_ok y h1) ?_
   cases hy : hasI L y with
   | false =>
    have hR : bAlu L kind x y = (-1, L) := by rw [bAlu, if_neg (by simp [hy])]
    simp [hR, hus, hsh, ap0, apk]
   | true =>
    obtain ⟨hx0, hx1⟩ : 0 ≤ x ∧ x < L.length := by simpa [hasI] using hx
    obtain ⟨hy0, hy1⟩ : 0 ≤ y ∧ y < L.length := by simpa [hasI] using hy
    obtain ⟨xn, rfl⟩ := Int.eq_ofNat_of_zero_le hx0
    obtain ⟨yn, rfl⟩ := Int.eq_ofNat_of_zero_le hy0
    obtain ⟨a, ha⟩ : ∃ a, L[xn]? = some a := ⟨_, get_in (by omega)⟩
    obtain ⟨c, hc⟩ : ∃ c, L[yn]? = some c := ⟨_, get_in (by omega)⟩
    have hR : bAlu L kind xn yn = bAlu2 L kind xn yn a c := by rw [bAlu, if_pos ⟨hok, hx, hy⟩]; simp [ha, hc]
    rw [hR]
    obtain ⟨sw, hsw⟩ : ∃ sw, sw = swapsB kind := ⟨_, rfl⟩
    have h2 : Bk (H ++ [some (.cells [.ptr b 0]), some (.cells [.int .i64 kind]), some (.cells [.int .i64 xn]), some (.cells [.int .i64 yn]), some (.cells [.bool sw])]) b z m L := h.app2 fun n hn => by simp [Blk.cl, clL, V.cl]; exact hbl n (by simp at hn; omega)
    obtain ⟨C, hC⟩ : ∃ C : List V, C = [.fn 270 [.ptr H.length 0, .ptr (H.length + 1) 0, .ptr (H.length + 2) 0, .ptr (H.length + 3) 0], .fn 271 [.ptr H.length 0, .ptr (H.length + 1) 0, .ptr (H.length + 2) 0, .ptr (H.length + 3) 0],
     .fn 272 [.ptr H.length 0, .ptr (H.length + 1) 0, .ptr (H.length + 2) 0, .ptr (H.length + 3) 0], .fn 273 [.ptr (H.length + 4) 0, .ptr H.length 0, .ptr (H.length + 1) 0, .ptr (H.length + 3) 0, .ptr (H.length + 2) 0]] := ⟨_, rfl⟩
    have hs2 := h2.shut.self
    simp at hs2
    have c5 : kind = 20 ∧ sw = false ∨ kind = 52 ∧ sw = false ∨ kind = 100 ∧ sw = false ∨ kind = 116 ∧ sw = false ∨ (kind ≠ 20 ∧ kind ≠ 52 ∧ kind ≠ 100 ∧ kind ≠ 116) ∧ sw = true := by
     by_cases a1 : kind = 20
     ·simp [a1, hsw, swapsB]
     by_cases a2 : kind = 52
     ·simp [a2, hsw, swapsB]
     by_cases a3 : kind = 100
     ·simp [a3, hsw, swapsB]
     by_cases a4 : kind = 116
     ·simp [a4, hsw, swapsB]
     simp [a1, a2, a3, a4, hsw, swapsB]
    have n20 : kind ≠ 20 → (kind != 20) = true := fun h => bneT h
    have n52 : kind ≠ 52 → (kind != 52) = true := fun h => bneT h
    have n100 : kind ≠ 100 → (kind != 100) = true := fun h => bneT h
    have n116 : kind ≠ 116 → (kind != 116) = true := fun h => bneT h
    have hcC : ∀ n, H.length + 6 ≤ n → clL n C = C := fun n hn => by
     rw [hC]
     simp [clL, V.cl, show H.length < n by omega, show H.length + 1 < n by omega, show H.length + 2 < n by omega, show H.length + 3 < n by omega, show H.length + 4 < n by omega]
    have h3 : Bk (H ++ [some (.cells [.ptr b 0]), some (.cells [.int .i64 kind]), some (.cells [.int .i64 xn]), some (.cells [.int .i64 yn]), some (.cells [.bool sw]), some (.cells C)]) b z m L := h.app2 fun n hn => by simp at hn; simp [Blk.cl, clL, V.cl, hcC n (by omega)]; exact hbl n (by omega)
    obtain ⟨BB, hBB⟩ : ∃ BB : List Nd → Heap, ∀ L', BB L' = upd H b z m L' ++ [some (.cells [.ptr b 0]), some (.cells [.int .i64 kind]), some (.cells [.int .i64 xn]), some (.cells [.int .i64 yn]), some (.cells [.bool sw]), some (.cells C)] := ⟨_, fun _ => rfl⟩
    have bL : BB L = H ++ [some (.cells [.ptr b 0]), some (.cells [.int .i64 kind]), some (.cells [.int .i64 xn]), some (.cells [.int .i64 yn]), some (.cells [.bool sw]), some (.cells C)] := by rw [hBB, hus]
    have bU : ∀ L' : List Nd, BB L' = upd (H ++ [some (.cells [.ptr b 0]), some (.cells [.int .i64 kind]), some (.cells [.int .i64 xn]), some (.cells [.int .i64 yn]), some (.cells [.bool sw]), some (.cells C)]) b z m L' := fun L' => by rw [h.upd_app, hBB]
    have bB : ∀ L' : List Nd, Inv L' → L'.length ≤ 1000000 → Bk (BB L') b z m L' := fun L' hi' hs' => by rw [bU]; exact h3.to hi' hs'
    have bUU : ∀ L1 L2 : List Nd, upd (BB L1) b z m L2 = BB L2 := fun L1 L2 => by rw [bU, bU, h3.upd_upd]
    have bl : ∀ L' : List Nd, (BB L').length = H.length + 6 := fun L' => by rw [hBB]; simp [upd_len]
    have g0 : ∀ (L' : List Nd) (r : Heap), (upd H b z m L' ++ r)[H.length]? = r[0]? := fun L' r => by rw [← upd_len H b z m L', ap0]
    have gk : ∀ (L' : List Nd) (r : Heap) (k : Nat), (upd H b z m L' ++ r)[H.length + k]? = r[k]? := fun L' r k => by
     have := apk (upd H b z m L') r k
     rwa [upd_len] at this
    have sk : ∀ (L' : List Nd) (r : Heap) (k : Nat) (x : Option Blk), (upd H b z m L' ++ r).set (H.length + k) x = upd H b z m L' ++ r.set k x := fun L' r k x => by
     have := setk (upd H b z m L') r k x
     rwa [upd_len] at this
    have q0 : ∀ L', (BB L')[H.length]? = some (some (.cells [.ptr b 0])) := fun L' => by rw [hBB, g0]; rfl
    have q1 : ∀ L', (BB L')[H.length + 1]? = some (some (.cells [.int .i64 kind])) := fun L' => by rw [hBB, gk]; rfl
    have q2 : ∀ L', (BB L')[H.length + 2]? = some (some (.cells [.int .i64 xn])) := fun L' => by rw [hBB, gk]; rfl
    have q3 : ∀ L', (BB L')[H.length + 3]? = some (some (.cells [.int .i64 yn])) := fun L' => by rw [hBB, gk]; rfl
    have q4 : ∀ L', (BB L')[H.length + 4]? = some (some (.cells [.bool sw])) := fun L' => by rw [hBB, gk]; rfl
    have q5 : ∀ L', (BB L')[H.length + 5]? = some (some (.cells C)) := fun L' => by rw [hBB, gk]; rfl
    have hao := hi.good xn a ha
    have hco := hi.good yn c hc
    have e1 := sums_ext (kind := kind) hi hao.1 hco.1 hao.2.1 hco.2.1
    obtain ⟨L1, hL1⟩ : ∃ L1, L1 = (sumsN L kind a c).2.2 := ⟨_, rfl⟩
    rw [← hL1] at e1
    have l1 := e1.len
    have k0 := bB L hi (by omega)
    have k1 := bB L1 e1.inv (by omega)
    have ha1 := e1.get ha
    have hc1 := e1.get hc
    have cx := constI_at ha1
    have cy := constI_at hc1
    have tr : ∀ (L' : List Nd), Inv L' → L'.length ≤ 1000000 → ∀ r, trunc (H.length + 6) (BB L' ++ r) = BB L' := fun L' hi' hs' r => by
     have := (bB L' hi' hs').shut.back r
     rwa [bl] at this
    have tr0 := tr L hi (by omega)
    have tr1 := tr L1 e1.inv (by omega)
    have ts0 : trunc (H.length + 6) (BB L) = BB L := by simpa using tr0 []
    have ts1 : trunc (H.length + 6) (BB L1) = BB L1 := by simpa using tr1 []
    have fin : ∀ L' r, trunc H.length (BB L' ++ r) = upd H b z m L' := fun L' r => by rw [hBB, List.append_assoc]; exact h.back L' _
    have fin0 : ∀ L', trunc H.length (BB L') = upd H b z m L' := fun L' => by simpa using fin L' []
    obtain ⟨Ls, hLs0, hLs⟩ : ∃ Ls : Nat → List Nd, Ls 0 = L ∧ ∀ i, Ls (i + 1) = L1 := ⟨fun i => match i with | 0 => L | _ + 1 => L1, rfl, fun _ => rfl⟩
    have C0 : C.take 1 = [.fn 270 [.ptr H.length 0, .ptr (H.length + 1) 0, .ptr (H.length + 2) 0, .ptr (H.length + 3) 0]] := by rw [hC]; rfl
    have C1 : C.tail.take 1 = [.fn 271 [.ptr H.length 0, .ptr (H.length + 1) 0, .ptr (H.length + 2) 0, .ptr (H.length + 3) 0]] := by rw [hC]; rfl
    have C2 : (C.drop 2).take 1 = [.fn 272 [.ptr H.length 0, .ptr (H.length + 1) 0, .ptr (H.length + 2) 0, .ptr (H.length + 3) 0]] := by rw [hC]; rfl
    have C3 : (C.drop 3).take 1 = [.fn 273 [.ptr (H.length + 4) 0, .ptr H.length 0, .ptr (H.length + 1) 0, .ptr (H.length + 3) 0, .ptr (H.length + 2) 0]] := by rw [hC]; rfl
    have lC : C.length = 4 := by rw [hC]; rfl
    have A1 := Alu1_ok (G := G) (kind := kind) k0 (by omega) ha hc hao.2.1 hco.2.1 (q0 L) (q1 L) (q2 L) (q3 L)
    have A2 := Alu2_ok (G := G) (kind := kind) k1 (by omega) ha1 hc1 hao.2.1 hco.2.1 (q0 L1) (q1 L1) (q2 L1) (q3 L1)
    have A3 := Alu3_ok (G := G) (kind := kind) k1 (q0 L1) (q1 L1) (q2 L1) (q3 L1)
    have A4 := Alu4_ok (G := G) (kind := kind) sw k1 (q4 L1) (q0 L1) (q1 L1) (q2 L1) (q3 L1)
    rw [← hL1, bUU] at A1
    rw [bUU] at A2
    rw [cy] at A3
    rw [cx] at A4
    have hLs1 : Ls 1 = L1 := hLs 0
    have hLs2 : Ls 2 = L1 := hLs 1
    have hLs3 : Ls 3 = L1 := hLs 2
    have hLs4 : Ls 4 = L1 := hLs 3
    have a01 : addI .i64 0 1 = 1 := rfl
    have a11 : addI .i64 1 1 = 2 := rfl
    have a21 : addI .i64 2 1 = 3 := rfl
    have a31 : addI .i64 3 1 = 4 := rfl
    have hfill : ∀ (u w : Nat) (r : List (Nat × V)), fillC (mkE ((80, .int .i64 w) :: (79, .int .i64 u) :: (78, .int .i64 kind) :: r)) Nd0.cs [(0, 1, .c (.int .i64 2)), (57, 1, .t 78), (58, 1, .t 79), (59, 1, .t 80)] = some (deedNd kind u w).cs := fun _ _ _ => rfl
    have hd := h.to e1.inv (by omega)
    have done : ∀ u w : Nat, bAlu2 L kind xn yn a c = putN L1 (deedNd kind u w) →
      SF G 259 [.ptr b 0, .agg (deedNd kind u w).cs] (upd H b z m L1 ++ [some (.cells [.ptr b 0]), some (.cells [.int .i64 kind]), some (.cells [.int .i64 u]), some (.cells [.int .i64 w]), some (.cells [.bool sw]), some (.cells C)]) (.int .i64 (bAlu2 L kind xn yn a c).1)
       (upd H b z m (bAlu2 L kind xn yn a c).2 ++ [some (.cells [.ptr b 0]), some (.cells [.int .i64 kind]), some (.cells [.int .i64 u]), some (.cells [.int .i64 w]), some (.cells [.bool sw]), some (.cells C)]) := fun u w hF => by
     have hb6 : Bk (upd H b z m L1 ++ [some (.cells [.ptr b 0]), some (.cells [.int .i64 kind]), some (.cells [.int .i64 u]), some (.cells [.int .i64 w]), some (.cells [.bool sw]), some (.cells C)]) b z m L1 :=
      hd.app2 fun n hn => by simp [upd_len] at hn; simp [Blk.cl, clL, V.cl, hcC n (by omega)]; exact hbl n (by omega)
     have := id_ok (G := G) (deedNd kind u w) ⟨rfl, rfl, rfl⟩ hb6 (by omega)
     rw [hd.upd_app, h.upd_upd] at this
     rw [hF]
     exact this
    have fin2 : ∀ (L' : List Nd) (r : Heap), trunc H.length (upd H b z m L' ++ r) = upd H b z m L' := fun L' r => h.back L' r
    rcases c5 with ⟨hk, hw⟩ | ⟨hk, hw⟩ | ⟨hk, hw⟩ | ⟨hk, hw⟩ | ⟨⟨z1, z2, z3, z4⟩, hw⟩
    case inr.inr.inr.inr => 
     simp [ap0, apk, n20 z1, n52 z2, n100 z3, n116 z4]
     rw [hw] at bL
     rw [← hC, ← bL]
     refine W_up 4 (fun i => [(4, .ptr H.length 0), (5, .ptr (H.length + 1) 0), (6, .ptr (H.length + 2) 0), (7, .ptr (H.length + 3) 0), (11, .ptr (H.length + 4) 0), (55, .rs (H.length + 5) 0 4 1), (56, .int .i64 4), (57, .int .i64 i)])
      (fun i => BB (Ls i)) (fun i => (0 < i → (sumsN L kind a c).2.1 = false) ∧ (1 < i → (bothN L1 kind a c).2.1 = false) ∧ (2 < i → (plainN kind (constA c) xn yn).2 = false) ∧ (3 < i → (sw && (plainN kind (constA a) yn xn).2) = false)) ?_ ?_
     ·simp [keep_cl, bl, ts0, hLs0]
     intro i hi4 hp
     by_cases hlt : i < 4
     ·rcases (show i = 0 ∨ i = 1 ∨ i = 2 ∨ i = 3 by omega) with rfl | rfl | rfl | rfl
      ·simp [hLs0, q5, C0, lC]
       refine callVSF_of A1 ?_
       cases es : (sumsN L kind a c).2.1 with
       | true =>
        have hF : bAlu2 L kind xn yn a c = ((sumsN L kind a c).1, L1) := by rw [hL1, bAlu2]; simp only [es, if_true]
        simp [hF, fin0]
       | false =>
        simp [hp, es, bl, keep_cl, ts1, hLs1, hLs2, hLs3, hLs4, a01, a11, a21, a31]
      ·have p1 := hp.1 (by omega)
       simp [hLs1, q5, C1, lC]
       refine callVSF_of A2 ?_
       cases es : (bothN L1 kind a c).2.1 with
       | true =>
        have hF : bAlu2 L kind xn yn a c = ((bothN L1 kind a c).1, (bothN L1 kind a c).2.2) := by rw [bAlu2]; simp only [p1, ← hL1, es, if_true, Bool.false_eq_true, if_false]
        simp [hF, fin0]
       | false =>
        have eL := bothN_L L1 kind a c es
        simp [p1, es, bl, keep_cl, ts1, hLs2, eL, a11]
      ·have p1 := hp.1 (by omega)
       have p2 := hp.2.1 (by omega)
       simp [hLs2, q5, C2, lC]
       refine callVSF_of A3 ?_
       cases es : (plainN kind (constA c) xn yn).2 with
       | true =>
        have hF : bAlu2 L kind xn yn a c = ((plainN kind (constA c) xn yn).1, L1) := by rw [bAlu2]; simp only [p1, p2, ← hL1, es, if_true, Bool.false_eq_true, if_false]
        simp [hF, fin0]
       | false =>
        simp [p1, p2, es, bl, keep_cl, ts1, hLs1, hLs2, hLs3, hLs4, a01, a11, a21, a31]
      ·have p1 := hp.1 (by omega)
       have p2 := hp.2.1 (by omega)
       have p3 := hp.2.2.1 (by omega)
       simp [hLs3, q5, C3, lC]
       refine callVSF_of A4 ?_
       cases es : (sw && (plainN kind (constA a) yn xn).2) with
       | true =>
        have es' : swapsB kind = true ∧ (plainN kind (constA a) yn xn).2 = true := by rw [← hsw]; simpa using es
        have hF : bAlu2 L kind xn yn a c = ((plainN kind (constA a) yn xn).1, L1) := by rw [bAlu2]; simp only [p1, p2, p3, ← hL1, es', if_true, Bool.false_eq_true, if_false, and_self]
        have esw : sw = true := by rw [hsw]; exact es'.1
        simp [hF, fin0, esw]
       | false =>
        simp [p1, p2, p3, es, bl, keep_cl, ts1, hLs1, hLs2, hLs3, hLs4, a01, a11, a21, a31]
        exact fun hh => by simpa [hh] using es
     ·obtain rfl : i = 4 := by omega
      have p1 := hp.1 (by omega)
      have p2 := hp.2.1 (by omega)
      have p3 := hp.2.2.1 (by omega)
      have p4 := hp.2.2.2 (by omega)
      have p4' : ¬ (swapsB kind = true ∧ (plainN kind (constA a) yn xn).2 = true) := fun hh => by rw [hsw, hh.1, hh.2] at p4; cases p4
      have esw : swapsB kind = true := by rw [← hsw]; exact hw
      have p5 : (plainN kind (constA a) yn xn).2 = false := by cases e : (plainN kind (constA a) yn xn).2 with | false => rfl | true => exact absurd ⟨esw, e⟩ p4'
      by_cases hyx : yn < xn
      ·have hF : bAlu2 L kind xn yn a c = putN L1 (deedNd kind yn xn) := by rw [bAlu2]; simp only [p1, p2, p3, ← hL1, p5, esw, hyx, if_true, Bool.false_eq_true, if_false, and_false, and_self]
       simp [hLs4, q4, q2, q3, q1, q0, hw, hyx]
       rw [hBB]
       simp [-fillC, nz, g0, gk, sk, hfill]
       refine callSF_of (done yn xn hF) ?_
       simp [fin2]
      ·have hF : bAlu2 L kind xn yn a c = putN L1 (deedNd kind xn yn) := by rw [bAlu2]; simp only [p1, p2, p3, ← hL1, p5, esw, hyx, if_true, Bool.false_eq_true, if_false, and_false, and_self]
       simp [hLs4, q4, q2, q3, q1, q0, hw, hyx]
       rw [hBB]
       simp [-fillC, nz, g0, gk, sk, hfill]
       refine callSF_of (done xn yn hF) ?_
       simp [fin2]
    case inl =>
     have u1 : (kind != 20) = false := bneF hk
     simp [ap0, apk, u1]
     rw [hw] at bL
     rw [← hC, ← bL]
     refine W_up 4 (fun i => [(4, .ptr H.length 0), (5, .ptr (H.length + 1) 0), (6, .ptr (H.length + 2) 0), (7, .ptr (H.length + 3) 0), (11, .ptr (H.length + 4) 0), (55, .rs (H.length + 5) 0 4 1), (56, .int .i64 4), (57, .int .i64 i)])
      (fun i => BB (Ls i)) (fun i => (0 < i → (sumsN L kind a c).2.1 = false) ∧ (1 < i → (bothN L1 kind a c).2.1 = false) ∧ (2 < i → (plainN kind (constA c) xn yn).2 = false) ∧ (3 < i → (sw && (plainN kind (constA a) yn xn).2) = false)) ?_ ?_
     ·simp [keep_cl, bl, ts0, hLs0]
     intro i hi4 hp
     by_cases hlt : i < 4
     ·rcases (show i = 0 ∨ i = 1 ∨ i = 2 ∨ i = 3 by omega) with rfl | rfl | rfl | rfl
      ·simp [hLs0, q5, C0, lC]
       refine callVSF_of A1 ?_
       cases es : (sumsN L kind a c).2.1 with
       | true =>
        have hF : bAlu2 L kind xn yn a c = ((sumsN L kind a c).1, L1) := by rw [hL1, bAlu2]; simp only [es, if_true]
        simp [hF, fin0]
       | false =>
        simp [hp, es, bl, keep_cl, ts1, hLs1, hLs2, hLs3, hLs4, a01, a11, a21, a31]
      ·have p1 := hp.1 (by omega)
       simp [hLs1, q5, C1, lC]
       refine callVSF_of A2 ?_
       cases es : (bothN L1 kind a c).2.1 with
       | true =>
        have hF : bAlu2 L kind xn yn a c = ((bothN L1 kind a c).1, (bothN L1 kind a c).2.2) := by rw [bAlu2]; simp only [p1, ← hL1, es, if_true, Bool.false_eq_true, if_false]
        simp [hF, fin0]
       | false =>
        have eL := bothN_L L1 kind a c es
        simp [p1, es, bl, keep_cl, ts1, hLs2, eL, a11]
      ·have p1 := hp.1 (by omega)
       have p2 := hp.2.1 (by omega)
       simp [hLs2, q5, C2, lC]
       refine callVSF_of A3 ?_
       cases es : (plainN kind (constA c) xn yn).2 with
       | true =>
        have hF : bAlu2 L kind xn yn a c = ((plainN kind (constA c) xn yn).1, L1) := by rw [bAlu2]; simp only [p1, p2, ← hL1, es, if_true, Bool.false_eq_true, if_false]
        simp [hF, fin0]
       | false =>
        simp [p1, p2, es, bl, keep_cl, ts1, hLs1, hLs2, hLs3, hLs4, a01, a11, a21, a31]
      ·have p1 := hp.1 (by omega)
       have p2 := hp.2.1 (by omega)
       have p3 := hp.2.2.1 (by omega)
       simp [hLs3, q5, C3, lC]
       refine callVSF_of A4 ?_
       cases es : (sw && (plainN kind (constA a) yn xn).2) with
       | true =>
        have es' : swapsB kind = true ∧ (plainN kind (constA a) yn xn).2 = true := by rw [← hsw]; simpa using es
        have hF : bAlu2 L kind xn yn a c = ((plainN kind (constA a) yn xn).1, L1) := by rw [bAlu2]; simp only [p1, p2, p3, ← hL1, es', if_true, Bool.false_eq_true, if_false, and_self]
        have esw : sw = true := by rw [hsw]; exact es'.1
        simp [hF, fin0, esw]
       | false =>
        simp [p1, p2, p3, es, bl, keep_cl, ts1, hLs1, hLs2, hLs3, hLs4, a01, a11, a21, a31]
        exact fun hh => by simpa [hh] using es
     ·obtain rfl : i = 4 := by omega
      have p1 := hp.1 (by omega)
      have p2 := hp.2.1 (by omega)
      have p3 := hp.2.2.1 (by omega)
      have p4 := hp.2.2.2 (by omega)
      have esw : swapsB kind = false := by rw [← hsw]; exact hw
      have hF : bAlu2 L kind xn yn a c = putN L1 (deedNd kind xn yn) := by rw [bAlu2]; simp only [p1, p2, p3, ← hL1, esw, Bool.false_eq_true, if_false, false_and]
      simp [hLs4, q4, q2, q3, q1, q0, hw]
      rw [hBB]
      simp [-fillC, nz, g0, gk, sk, hfill]
      refine callSF_of (done xn yn hF) ?_
      simp [fin2]
    case inr.inl =>
     have u1 : (kind != 20) = true := bneT (by omega)
     have u2 : (kind != 52) = false := bneF hk
     simp [ap0, apk, u1, u2]
     rw [hw] at bL
     rw [← hC, ← bL]
     refine W_up 4 (fun i => [(4, .ptr H.length 0), (5, .ptr (H.length + 1) 0), (6, .ptr (H.length + 2) 0), (7, .ptr (H.length + 3) 0), (11, .ptr (H.length + 4) 0), (55, .rs (H.length + 5) 0 4 1), (56, .int .i64 4), (57, .int .i64 i)])
      (fun i => BB (Ls i)) (fun i => (0 < i → (sumsN L kind a c).2.1 = false) ∧ (1 < i → (bothN L1 kind a c).2.1 = false) ∧ (2 < i → (plainN kind (constA c) xn yn).2 = false) ∧ (3 < i → (sw && (plainN kind (constA a) yn xn).2) = false)) ?_ ?_
     ·simp [keep_cl, bl, ts0, hLs0]
     intro i hi4 hp
     by_cases hlt : i < 4
     ·rcases (show i = 0 ∨ i = 1 ∨ i = 2 ∨ i = 3 by omega) with rfl | rfl | rfl | rfl
      ·simp [hLs0, q5, C0, lC]
       refine callVSF_of A1 ?_
       cases es : (sumsN L kind a c).2.1 with
       | true =>
        have hF : bAlu2 L kind xn yn a c = ((sumsN L kind a c).1, L1) := by rw [hL1, bAlu2]; simp only [es, if_true]
        simp [hF, fin0]
       | false =>
        simp [hp, es, bl, keep_cl, ts1, hLs1, hLs2, hLs3, hLs4, a01, a11, a21, a31]
      ·have p1 := hp.1 (by omega)
       simp [hLs1, q5, C1, lC]
       refine callVSF_of A2 ?_
       cases es : (bothN L1 kind a c).2.1 with
       | true =>
        have hF : bAlu2 L kind xn yn a c = ((bothN L1 kind a c).1, (bothN L1 kind a c).2.2) := by rw [bAlu2]; simp only [p1, ← hL1, es, if_true, Bool.false_eq_true, if_false]
        simp [hF, fin0]
       | false =>
        have eL := bothN_L L1 kind a c es
        simp [p1, es, bl, keep_cl, ts1, hLs2, eL, a11]
      ·have p1 := hp.1 (by omega)
       have p2 := hp.2.1 (by omega)
       simp [hLs2, q5, C2, lC]
       refine callVSF_of A3 ?_
       cases es : (plainN kind (constA c) xn yn).2 with
       | true =>
        have hF : bAlu2 L kind xn yn a c = ((plainN kind (constA c) xn yn).1, L1) := by rw [bAlu2]; simp only [p1, p2, ← hL1, es, if_true, Bool.false_eq_true, if_false]
        simp [hF, fin0]
       | false =>
        simp [p1, p2, es, bl, keep_cl, ts1, hLs1, hLs2, hLs3, hLs4, a01, a11, a21, a31]
      ·have p1 := hp.1 (by omega)
       have p2 := hp.2.1 (by omega)
       have p3 := hp.2.2.1 (by omega)
       simp [hLs3, q5, C3, lC]
       refine callVSF_of A4 ?_
       cases es : (sw && (plainN kind (constA a) yn xn).2) with
       | true =>
        have es' : swapsB kind = true ∧ (plainN kind (constA a) yn xn).2 = true := by rw [← hsw]; simpa using es
        have hF : bAlu2 L kind xn yn a c = ((plainN kind (constA a) yn xn).1, L1) := by rw [bAlu2]; simp only [p1, p2, p3, ← hL1, es', if_true, Bool.false_eq_true, if_false, and_self]
        have esw : sw = true := by rw [hsw]; exact es'.1
        simp [hF, fin0, esw]
       | false =>
        simp [p1, p2, p3, es, bl, keep_cl, ts1, hLs1, hLs2, hLs3, hLs4, a01, a11, a21, a31]
        exact fun hh => by simpa [hh] using es
     ·obtain rfl : i = 4 := by omega
      have p1 := hp.1 (by omega)
      have p2 := hp.2.1 (by omega)
      have p3 := hp.2.2.1 (by omega)
      have p4 := hp.2.2.2 (by omega)
      have esw : swapsB kind = false := by rw [← hsw]; exact hw
      have hF : bAlu2 L kind xn yn a c = putN L1 (deedNd kind xn yn) := by rw [bAlu2]; simp only [p1, p2, p3, ← hL1, esw, Bool.false_eq_true, if_false, false_and]
      simp [hLs4, q4, q2, q3, q1, q0, hw]
      rw [hBB]
      simp [-fillC, nz, g0, gk, sk, hfill]
      refine callSF_of (done xn yn hF) ?_
      simp [fin2]
    case inr.inr.inl =>
     have u1 : (kind != 20) = true := bneT (by omega)
     have u2 : (kind != 52) = true := bneT (by omega)
     have u3 : (kind != 100) = false := bneF hk
     simp [ap0, apk, u1, u2, u3]
     rw [hw] at bL
     rw [← hC, ← bL]
     refine W_up 4 (fun i => [(4, .ptr H.length 0), (5, .ptr (H.length + 1) 0), (6, .ptr (H.length + 2) 0), (7, .ptr (H.length + 3) 0), (11, .ptr (H.length + 4) 0), (55, .rs (H.length + 5) 0 4 1), (56, .int .i64 4), (57, .int .i64 i)])
      (fun i => BB (Ls i)) (fun i => (0 < i → (sumsN L kind a c).2.1 = false) ∧ (1 < i → (bothN L1 kind a c).2.1 = false) ∧ (2 < i → (plainN kind (constA c) xn yn).2 = false) ∧ (3 < i → (sw && (plainN kind (constA a) yn xn).2) = false)) ?_ ?_
     ·simp [keep_cl, bl, ts0, hLs0]
     intro i hi4 hp
     by_cases hlt : i < 4
     ·rcases (show i = 0 ∨ i = 1 ∨ i = 2 ∨ i = 3 by omega) with rfl | rfl | rfl | rfl
      ·simp [hLs0, q5, C0, lC]
       refine callVSF_of A1 ?_
       cases es : (sumsN L kind a c).2.1 with
       | true =>
        have hF : bAlu2 L kind xn yn a c = ((sumsN L kind a c).1, L1) := by rw [hL1, bAlu2]; simp only [es, if_true]
        simp [hF, fin0]
       | false =>
        simp [hp, es, bl, keep_cl, ts1, hLs1, hLs2, hLs3, hLs4, a01, a11, a21, a31]
      ·have p1 := hp.1 (by omega)
       simp [hLs1, q5, C1, lC]
       refine callVSF_of A2 ?_
       cases es : (bothN L1 kind a c).2.1 with
       | true =>
        have hF : bAlu2 L kind xn yn a c = ((bothN L1 kind a c).1, (bothN L1 kind a c).2.2) := by rw [bAlu2]; simp only [p1, ← hL1, es, if_true, Bool.false_eq_true, if_false]
        simp [hF, fin0]
       | false =>
        have eL := bothN_L L1 kind a c es
        simp [p1, es, bl, keep_cl, ts1, hLs2, eL, a11]
      ·have p1 := hp.1 (by omega)
       have p2 := hp.2.1 (by omega)
       simp [hLs2, q5, C2, lC]
       refine callVSF_of A3 ?_
       cases es : (plainN kind (constA c) xn yn).2 with
       | true =>
        have hF : bAlu2 L kind xn yn a c = ((plainN kind (constA c) xn yn).1, L1) := by rw [bAlu2]; simp only [p1, p2, ← hL1, es, if_true, Bool.false_eq_true, if_false]
        simp [hF, fin0]
       | false =>
        simp [p1, p2, es, bl, keep_cl, ts1, hLs1, hLs2, hLs3, hLs4, a01, a11, a21, a31]
      ·have p1 := hp.1 (by omega)
       have p2 := hp.2.1 (by omega)
       have p3 := hp.2.2.1 (by omega)
       simp [hLs3, q5, C3, lC]
       refine callVSF_of A4 ?_
       cases es : (sw && (plainN kind (constA a) yn xn).2) with
       | true =>
        have es' : swapsB kind = true ∧ (plainN kind (constA a) yn xn).2 = true := by rw [← hsw]; simpa using es
        have hF : bAlu2 L kind xn yn a c = ((plainN kind (constA a) yn xn).1, L1) := by rw [bAlu2]; simp only [p1, p2, p3, ← hL1, es', if_true, Bool.false_eq_true, if_false, and_self]
        have esw : sw = true := by rw [hsw]; exact es'.1
        simp [hF, fin0, esw]
       | false =>
        simp [p1, p2, p3, es, bl, keep_cl, ts1, hLs1, hLs2, hLs3, hLs4, a01, a11, a21, a31]
        exact fun hh => by simpa [hh] using es
     ·obtain rfl : i = 4 := by omega
      have p1 := hp.1 (by omega)
      have p2 := hp.2.1 (by omega)
      have p3 := hp.2.2.1 (by omega)
      have p4 := hp.2.2.2 (by omega)
      have esw : swapsB kind = false := by rw [← hsw]; exact hw
      have hF : bAlu2 L kind xn yn a c = putN L1 (deedNd kind xn yn) := by rw [bAlu2]; simp only [p1, p2, p3, ← hL1, esw, Bool.false_eq_true, if_false, false_and]
      simp [hLs4, q4, q2, q3, q1, q0, hw]
      rw [hBB]
      simp [-fillC, nz, g0, gk, sk, hfill]
      refine callSF_of (done xn yn hF) ?_
      simp [fin2]
    case inr.inr.inr.inl =>
     have u1 : (kind != 20) = true := bneT (by omega)
     have u2 : (kind != 52) = true := bneT (by omega)
     have u3 : (kind != 100) = true := bneT (by omega)
     have u4 : (kind != 116) = false := bneF hk
     simp [ap0, apk, u1, u2, u3, u4]
     rw [hw] at bL
     rw [← hC, ← bL]
     refine W_up 4 (fun i => [(4, .ptr H.length 0), (5, .ptr (H.length + 1) 0), (6, .ptr (H.length + 2) 0), (7, .ptr (H.length + 3) 0), (11, .ptr (H.length + 4) 0), (55, .rs (H.length + 5) 0 4 1), (56, .int .i64 4), (57, .int .i64 i)])
      (fun i => BB (Ls i)) (fun i => (0 < i → (sumsN L kind a c).2.1 = false) ∧ (1 < i → (bothN L1 kind a c).2.1 = false) ∧ (2 < i → (plainN kind (constA c) xn yn).2 = false) ∧ (3 < i → (sw && (plainN kind (constA a) yn xn).2) = false)) ?_ ?_
     ·simp [keep_cl, bl, ts0, hLs0]
     intro i hi4 hp
     by_cases hlt : i < 4
     ·rcases (show i = 0 ∨ i = 1 ∨ i = 2 ∨ i = 3 by omega) with rfl | rfl | rfl | rfl
      ·simp [hLs0, q5, C0, lC]
       refine callVSF_of A1 ?_
       cases es : (sumsN L kind a c).2.1 with
       | true =>
        have hF : bAlu2 L kind xn yn a c = ((sumsN L kind a c).1, L1) := by rw [hL1, bAlu2]; simp only [es, if_true]
        simp [hF, fin0]
       | false =>
        simp [hp, es, bl, keep_cl, ts1, hLs1, hLs2, hLs3, hLs4, a01, a11, a21, a31]
      ·have p1 := hp.1 (by omega)
       simp [hLs1, q5, C1, lC]
       refine callVSF_of A2 ?_
       cases es : (bothN L1 kind a c).2.1 with
       | true =>
        have hF : bAlu2 L kind xn yn a c = ((bothN L1 kind a c).1, (bothN L1 kind a c).2.2) := by rw [bAlu2]; simp only [p1, ← hL1, es, if_true, Bool.false_eq_true, if_false]
        simp [hF, fin0]
       | false =>
        have eL := bothN_L L1 kind a c es
        simp [p1, es, bl, keep_cl, ts1, hLs2, eL, a11]
      ·have p1 := hp.1 (by omega)
       have p2 := hp.2.1 (by omega)
       simp [hLs2, q5, C2, lC]
       refine callVSF_of A3 ?_
       cases es : (plainN kind (constA c) xn yn).2 with
       | true =>
        have hF : bAlu2 L kind xn yn a c = ((plainN kind (constA c) xn yn).1, L1) := by rw [bAlu2]; simp only [p1, p2, ← hL1, es, if_true, Bool.false_eq_true, if_false]
        simp [hF, fin0]
       | false =>
        simp [p1, p2, es, bl, keep_cl, ts1, hLs1, hLs2, hLs3, hLs4, a01, a11, a21, a31]
      ·have p1 := hp.1 (by omega)
       have p2 := hp.2.1 (by omega)
       have p3 := hp.2.2.1 (by omega)
       simp [hLs3, q5, C3, lC]
       refine callVSF_of A4 ?_
       cases es : (sw && (plainN kind (constA a) yn xn).2) with
       | true =>
        have es' : swapsB kind = true ∧ (plainN kind (constA a) yn xn).2 = true := by rw [← hsw]; simpa using es
        have hF : bAlu2 L kind xn yn a c = ((plainN kind (constA a) yn xn).1, L1) := by rw [bAlu2]; simp only [p1, p2, p3, ← hL1, es', if_true, Bool.false_eq_true, if_false, and_self]
        have esw : sw = true := by rw [hsw]; exact es'.1
        simp [hF, fin0, esw]
       | false =>
        simp [p1, p2, p3, es, bl, keep_cl, ts1, hLs1, hLs2, hLs3, hLs4, a01, a11, a21, a31]
        exact fun hh => by simpa [hh] using es
     ·obtain rfl : i = 4 := by omega
      have p1 := hp.1 (by omega)
      have p2 := hp.2.1 (by omega)
      have p3 := hp.2.2.1 (by omega)
      have p4 := hp.2.2.2 (by omega)
      have esw : swapsB kind = false := by rw [← hsw]; exact hw
      have hF : bAlu2 L kind xn yn a c = putN L1 (deedNd kind xn yn) := by rw [bAlu2]; simp only [p1, p2, p3, ← hL1, esw, Bool.false_eq_true, if_false, false_and]
      simp [hLs4, q4, q2, q3, q1, q0, hw]
      rw [hBB]
      simp [-fillC, nz, g0, gk, sk, hfill]
      refine callSF_of (done xn yn hF) ?_
      simp [fin2]
end Go.Ev
/- The numbers of a book's values. -/
namespace Go.Ev
open Go Go.RowKit
variable {G : Tbl}
set_option maxRecDepth 10000
set_option maxHeartbeats 4000000
set_option linter.unusedSimpArgs false
set_option linter.unusedVariables false
variable {H : Heap} {b z m : Nat} {L : List Nd}
def negN' (L : List Nd) : Int × List Nd := putN L (sumNd (0 :: zeros 34))
noncomputable def bNeg (L : List Nd) (x : Int) : Int × List Nd := if hasI L x = true then bAlu (negN' L).2 20 (negN' L).1 x else (-1, L)
theorem zero_ext (h : Inv L) : Ext L (negN' L).2 1 := (put_ext h (sum_good (by simp) (const_lt (by decide)) _)).1
theorem BNeg_ok [HasWd G] [HasAffine G] [HasBits G] [HasSym G] (x : Int) (h : Bk H b z m L) (hi : Inv L) (hs : L.length < 999980) : BF G 275 [.int .i64 x] H b z m (bNeg L x) := by
 refine SF_of HasSym.h_sym_Book_Neg (Nat.le_of_ble_eq_true rfl) ?_
 have hbk := h.shut.self
 have hus := h.upd_self
 simp
 refine callSF_of (hasF_ok x h) ?_
 cases hx : hasI L x with
 | false =>
  have hR : bNeg L x = (-1, L) := by rw [bNeg, if_neg (by simp [hx])]
  simp [hR, hbk, hus]
 | true =>
  have hR : bNeg L x = bAlu (negN' L).2 20 (negN' L).1 x := by rw [bNeg, if_pos hx]
  have e1 := zero_ext hi
  have l1 := e1.len
  have h1 := h.to e1.inv (by omega)
  simp [hbk]
  have hz := BConst_ok (G := G) 0 h (by omega)
  refine callSF_of hz ?_
  have hA := BAlu_ok (G := G) 20 (negN' L).1 x h1 e1.inv (by omega)
  rw [BF, h.upd_upd] at hA
  have fin := h.back (bAlu (negN' L).2 20 (negN' L).1 x).2 []
  simp at fin
  simp
  refine callSF_of hA ?_
  simp [hR, fin]
/-! Numbers. -/
/-- Arithmetic of numbers, where there are two. -/
def aluV (kind : Int) (o o' : Option Nat) : Option Nat := match o, o' with
 | some l, some r => if (doW kind l r).2 = true then some (doW kind l r).1 else none
 | _, _ => none
noncomputable def nval (v : List Nat) (acc : List (Option Nat)) (a : Nd) : Option Nat :=
 if a.kind = 0 then some (fEval a.f v) else if a.kind = 1 then (asB a).map fun p => val p.1 p.2 (asg v)
 else aluV a.op acc[a.x]?.join acc[a.y]?.join
noncomputable def vals (v : List Nat) (L : List Nd) : List (Option Nat) := L.foldl (fun acc a => acc ++ [nval v acc a]) []
section
variable {v : List Nat}
theorem vals_snoc (L : List Nd) (a : Nd) : vals v (L ++ [a]) = vals v L ++ [nval v (vals v L) a] := by simp [vals]
theorem vals_len : ∀ L : List Nd, (vals v L).length = L.length := by
 intro L
 have : ∀ (L : List Nd) (acc : List (Option Nat)), (L.foldl (fun acc a => acc ++ [nval v acc a]) acc).length = acc.length + L.length := fun L => by
  induction L with
  | nil => intro acc; rfl
  | cons a L ih => intro acc; simp only [List.foldl_cons, ih]; simp; omega
 simpa [vals] using this L []
theorem vals_app : ∀ (L M : List Nd), vals v L <+: vals v (L ++ M) := by
 intro L M
 have : ∀ (M : List Nd) (acc : List (Option Nat)), acc <+: M.foldl (fun acc a => acc ++ [nval v acc a]) acc := fun M => by
  induction M with
  | nil => intro acc; exact List.prefix_refl _
  | cons a M ih => intro acc; exact (List.prefix_append _ _).trans (ih _)
 rw [vals, vals, List.foldl_append]
 exact this M _
theorem vals_pre {L L' : List Nd} (h : L <+: L') : vals v L <+: vals v L' := by obtain ⟨M, rfl⟩ := h; exact vals_app L M
theorem vals_take (L : List Nd) (i : Nat) : (vals v L).take i = vals v (L.take i) := by
 have h := vals_pre (v := v) (List.take_prefix i L)
 obtain ⟨t, ht⟩ := h
 by_cases hi : i ≤ L.length
 ·rw [← ht, List.take_left' (by rw [vals_len, List.length_take]; omega)]
 ·rw [List.take_of_length_le (by rw [vals_len]; omega), List.take_of_length_le (by omega)]
theorem vals_at {i : Nat} {a : Nd} (h : L[i]? = some a) : (vals v L)[i]? = some (nval v (vals v (L.take i)) a) := by
 have hl := (List.getElem?_eq_some_iff.1 h).1
 have e : L.take (i + 1) = L.take i ++ [a] := by rw [List.take_add_one, h]; rfl
 have h1 := vals_take (v := v) L (i + 1)
 rw [e, vals_snoc] at h1
 have h2 : ((vals v L).take (i + 1))[i]? = (vals v L)[i]? := by rw [List.getElem?_take]; simp
 rw [← h2, h1, List.getElem?_append_right (by rw [vals_len, List.length_take]; omega), vals_len, List.length_take]
 rw [show i - min i L.length = 0 by omega]
 rfl
end
theorem fEval_lt (f v : List Nat) : fEval f v < 4294967296 := Nat.mod_lt _ (by decide)
theorem vals_lt {v : List Nat} {k i : Nat} {o : Option Nat} (hi : Inv L) (h : (vals v (L.take k))[i]? = some o) : o.getD 0 < 4294967296 := by
 have main : ∀ (i : Nat) (o : Option Nat), (vals v L)[i]? = some o → o.getD 0 < 4294967296 := fun i => by
  induction i using Nat.strongRecOn with
  | _ i ih =>
   intro o ho
   have hl := (List.getElem?_eq_some_iff.1 ho).1
   rw [vals_len] at hl
   have ha := get_in hl
   rw [vals_at ha] at ho
   cases ho
   have hg := hi.good i _ ha
   have sub : ∀ j, j < i → (vals v (L.take i))[j]? = (vals v L)[j]? := fun j hj => by rw [← vals_take, List.getElem?_take, if_pos hj]
   rw [nval]
   split
   ·exact fEval_lt _ _
   ·split
    ·cases e : asB L[i] with
     | none => simp
     | some p => simp only [Option.map_some, Option.getD_some]; exact val_lt _ _ _
    ·rcases hg.2.2 with h | h | ⟨_, hx, hy, _⟩
     ·contradiction
     ·contradiction
     ·unfold aluV
      split
      ·rename_i l r el er
       split
       ·rw [sub _ hx] at el
        rw [sub _ hy] at er
        obtain ⟨o1, h1, h1'⟩ : ∃ o1, (vals v L)[L[i].x]? = some o1 ∧ o1 = some l := by
         cases e : (vals v L)[L[i].x]? with
         | none => rw [e] at el; cases el
         | some o1 => rw [e] at el; exact ⟨o1, rfl, el⟩
        obtain ⟨o2, h2, h2'⟩ : ∃ o2, (vals v L)[L[i].y]? = some o2 ∧ o2 = some r := by
         cases e : (vals v L)[L[i].y]? with
         | none => rw [e] at er; cases er
         | some o2 => rw [e] at er; exact ⟨o2, rfl, er⟩
        have b1 := ih _ hx _ h1
        have b2 := ih _ hy _ h2
        rw [h1'] at b1
        rw [h2'] at b2
        exact doW32 _ b1 b2
       ·simp
      ·simp
 by_cases hik : i < k
 ·rw [← vals_take, List.getElem?_take, if_pos hik] at h
  exact main i o h
 ·rw [← vals_take, List.getElem?_take, if_neg hik] at h
  cases h
noncomputable def valI (v : List Nat) (L : List Nd) (x : Int) : Option Nat := if hasI L x = true then (vals v L)[x.toNat]?.join else none
end Go.Ev
/- The document's values: how each was made. -/
namespace Go.Ev
open Go Go.RowKit
variable {G : Tbl}
set_option maxRecDepth 10000
set_option maxHeartbeats 4000000
set_option linter.unusedSimpArgs false
set_option linter.unusedVariables false
structure Md where
 kind : Int
 i : Int
 op : Int
 x : Int
 y : Int
 c : Nat
def Md.cs (a : Md) : List V := [.int .i64 a.kind, .int .i64 a.i, .int .i64 a.op, .int .i64 a.x, .int .i64 a.y, .int .u32 (a.c : Int)]
def mds (l : List Md) : List (List V) := l.map Md.cs
@[simp] theorem mds_length (l : List Md) : (mds l).length = l.length := by simp [mds]
def thereB (l : List Md) (i : Int) : Bool := decide (0 ≤ i ∧ i < l.length) && (match l[i.toNat]? with | some a => decide (a.kind ≠ 4) | none => false)
def noMd : Md := ⟨4, 0, 0, 0, 0, 0⟩
def nextM (l : List Md) (a : Md) : Md :=
 if a.kind = 0 then ⟨0, 0, 0, 0, 0, a.c⟩ else if a.kind = 1 ∧ 0 ≤ a.i ∧ a.i < 34 then ⟨1, a.i, 0, 0, 0, 0⟩
 else if a.kind = 2 ∧ (doW a.op 0 1).2 = true ∧ thereB l a.x = true ∧ thereB l a.y = true then ⟨2, 0, a.op, a.x, a.y, 0⟩
 else if a.kind = 3 ∧ thereB l a.x = true then ⟨3, 0, 0, a.x, 0, 0⟩ else noMd
def rval (v : List Nat) (acc : List (Option Nat)) (a : Md) : Option Nat :=
 if a.kind = 0 then some a.c else if a.kind = 1 then some (v[a.i.toNat]?.getD 0) else if a.kind = 2 then aluV a.op acc[a.x.toNat]?.join acc[a.y.toNat]?.join
 else if a.kind = 3 then (acc[a.x.toNat]?.join).map negW else none
def refs (v : List Nat) (l : List Md) : List (Option Nat) := l.foldl (fun acc a => acc ++ [rval v acc a]) []
section
variable {v : List Nat} {l : List Md}
theorem refs_snoc (l : List Md) (a : Md) : refs v (l ++ [a]) = refs v l ++ [rval v (refs v l) a] := by simp [refs]
theorem refs_len : ∀ l : List Md, (refs v l).length = l.length := by
 intro l
 have : ∀ (l : List Md) (acc : List (Option Nat)), (l.foldl (fun acc a => acc ++ [rval v acc a]) acc).length = acc.length + l.length := fun l => by
  induction l with
  | nil => intro acc; rfl
  | cons a l ih => intro acc; simp only [List.foldl_cons, ih]; simp; omega
 simpa [refs] using this l []
def mdOk (l : List Md) : Prop := ∀ (i : Nat) (a : Md), l[i]? = some a → a.c < 4294967296 ∧ (a.kind = 0 ∨ a.kind = 1 ∧ 0 ≤ a.i ∧ a.i < 34 ∨ a.kind = 2 ∧ 0 ≤ a.x ∧ a.x < i ∧ 0 ≤ a.y ∧ a.y < i ∨ a.kind = 3 ∧ 0 ≤ a.x ∧ a.x < i ∨ a.kind = 4)
end
end Go.Ev
/- Values made one by one. -/
namespace Go.Ev
open Go Go.RowKit
variable {G : Tbl}
set_option maxRecDepth 10000
set_option maxHeartbeats 4000000
set_option linter.unusedSimpArgs false
set_option linter.unusedVariables false
variable {H : Heap} {b z m : Nat} {L : List Nd}
def atI (l : List Int) (i : Int) : Int := if 0 ≤ i ∧ i < l.length then l[i.toNat]?.getD 0 else -1
structure MS where
 L : List Nd
 ids : List Int
 made : List Md
noncomputable def makeR (s : MS) (a : Md) : Int × List Nd :=
 if a.kind = 0 then putN s.L (sumNd (a.c :: zeros 34)) else if a.kind = 1 then varN s.L a.i else if a.kind = 2 then bAlu s.L a.op (atI s.ids a.x) (atI s.ids a.y)
 else if a.kind = 3 then bNeg s.L (atI s.ids a.x) else (-1, s.L)
noncomputable def makeS (s : MS) (a : Md) : MS := ⟨(makeR s a).2, s.ids ++ [(makeR s a).1], s.made ++ [nextM s.made a]⟩
theorem both_ext {kind : Int} {a c : Nd} (h : Inv L) (ha : a.wf) (hc : c.wf) : Ext L (bothN L kind a c).2.2 1 := by
 cases e1 : asB a with
 | none => simp only [bothN, e1, noR]; exact .refl h 1
 | some p =>
  cases e2 : asB c with
  | none => simp only [bothN, e1, e2, noR]; exact .refl h 1
  | some q =>
   cases e3 : bdo kind p q with
   | none => simp only [bothN, e1, e2, e3, noR]; exact .refl h 1
   | some r =>
    simp only [bothN, e1, e2, e3, okP]
    obtain ⟨_, hR, hw, _⟩ := bdo_some e3
    exact (bits_ext h hR hw).1
theorem deed_good {kind : Int} {x y n : Nat} (hk : (doW kind 0 1).2 = true) (hx : x < n) (hy : y < n) : (deedNd kind x y).good n :=
 ⟨⟨rfl, rfl, rfl⟩, ⟨zeros_lt 35, fun h => by cases h⟩, .inr (.inr ⟨rfl, hx, hy, hk⟩)⟩
theorem alu_ext {kind x y : Int} (h : Inv L) : Ext L (bAlu L kind x y).2 2 := by
 rw [bAlu]
 split
 case isFalse => exact .refl h 2
 rename_i hk
 obtain ⟨hk, hx, hy⟩ := hk
 obtain ⟨hx0, hx1⟩ : 0 ≤ x ∧ x < L.length := by simpa [hasI] using hx
 obtain ⟨hy0, hy1⟩ : 0 ≤ y ∧ y < L.length := by simpa [hasI] using hy
 obtain ⟨xn, rfl⟩ := Int.eq_ofNat_of_zero_le hx0
 obtain ⟨yn, rfl⟩ := Int.eq_ofNat_of_zero_le hy0
 obtain ⟨a, ha⟩ : ∃ a, L[xn]? = some a := ⟨_, get_in (by omega)⟩
 obtain ⟨c, hc⟩ : ∃ c, L[yn]? = some c := ⟨_, get_in (by omega)⟩
 have hga := h.good _ _ ha
 have hgc := h.good _ _ hc
 simp only [Int.toNat_natCast, ha, hc, bAlu2]
 have e1 := sums_ext (kind := kind) h hga.1 hgc.1 hga.2.1 hgc.2.1
 have e2 := both_ext (kind := kind) e1.inv hga.2.1 hgc.2.1
 have l1 := e1.pre.length_le
 split
 ·exact e1.mono (by omega)
 ·split
  ·exact e1.trans e2
  ·split
   ·exact e1.mono (by omega)
   ·split
    ·exact e1.mono (by omega)
    ·split
     ·exact e1.trans (put_ext e1.inv (deed_good hk (by omega) (by omega))).1
     ·exact e1.trans (put_ext e1.inv (deed_good hk (by omega) (by omega))).1
theorem var_ext {i : Int} (h : Inv L) : Ext L (varN L i).2 1 := by
 rw [varN]
 split
 ·exact (put_ext h (sum_good (varL_len _) (varL_lt _) _)).1
 ·exact .refl h 1
theorem neg_ext {x : Int} (h : Inv L) : Ext L (bNeg L x).2 3 := by
 rw [bNeg]
 split
 ·exact (zero_ext h).trans (alu_ext (zero_ext h).inv)
 ·exact .refl h 3
theorem make_ext {s : MS} {a : Md} (h : Inv s.L) (hc : a.c < 4294967296) : Ext s.L (makeS s a).L 3 := by
 show Ext s.L (makeR s a).2 3
 rw [makeR]
 split
 ·exact (put_ext h (sum_good (by simp) (const_lt hc) _)).1.mono (by omega)
 ·split
  ·exact (var_ext h).mono (by omega)
  ·split
   ·exact (alu_ext h).mono (by omega)
   ·split
    ·exact neg_ext h
    ·exact .refl h 3
noncomputable def makeAll (s : MS) (l : List Md) : MS := l.foldl makeS s
theorem Md.cs_cl (a : Md) (n : Nat) : clL n a.cs = a.cs := by simp [Md.cs, clL, V.cl]
end Go.Ev
/- Numbers of sums, bits and deeds: plain laws. -/
namespace Go.Ev
open Go Go.RowKit
set_option maxRecDepth 10000
set_option maxHeartbeats 4000000
set_option linter.unusedSimpArgs false
set_option linter.unusedVariables false
variable {L : List Nd} {v : List Nat}
/-! Sums of multiples. -/
def dot : List Nat → List Nat → Int
 | a :: f, b :: v => a * b + dot f v
 | _, _ => 0
theorem dot_sum : ∀ (f v : List Nat), ((List.zipWith (· * ·) f v).sum : Nat) = dot f v
 | [], _ => by simp [dot]
 | _ :: _, [] => by simp [dot]
 | a :: f, b :: v => by
  have := dot_sum f v
  simp only [List.zipWith_cons_cons, List.sum_cons, dot]
  omega
theorem fEval_dot {c : Nat} {t : List Nat} (ht : t.length = 34) (hv : v.length = 34) : (fEval (c :: t) v : Int) = ((c : Int) + dot t v) % 4294967296 := by
 have e : (fSum (c :: t) v 34 : Int) = dot t v := by
  rw [fSum, List.drop_one, List.tail_cons, List.take_of_length_le (by simp [ht, hv]), dot_sum]
 rw [fEval, List.headD_cons]
 rw [← e]
 omega
def Cong (a b : Int) : Prop := ∃ k : Int, a = b + 4294967296 * k
theorem cong_mod (a : Nat) : ∃ q : Int, ((a % 4294967296 : Nat) : Int) = (a : Int) - 4294967296 * q := ⟨((a / 4294967296 : Nat) : Int), by omega⟩
theorem dot_add : ∀ (f g v : List Nat), f.length = g.length → Cong (dot (fAdd f g) v) (dot f v + dot g v)
 | [], [], v, _ => ⟨0, by simp [fAdd, dot]⟩
 | [], _ :: _, _, h => by simp at h
 | _ :: _, [], _, h => by simp at h
 | _ :: _, _ :: _, [], _ => ⟨0, by simp [fAdd, dot]⟩
 | a :: f, b :: g, x :: v, h => by
  obtain ⟨k, hk⟩ := dot_add f g v (by simpa using h)
  obtain ⟨q, hq⟩ := cong_mod (a + b)
  refine ⟨k - q * x, ?_⟩
  simp only [fAdd, List.zipWith_cons_cons, dot] at hk ⊢
  rw [hk, hq]
  simp only [Int.natCast_add]
  grind
theorem dot_sub : ∀ (f g v : List Nat), f.length = g.length → (∀ x ∈ g, x < 4294967296) → Cong (dot (fSub f g) v) (dot f v - dot g v)
 | [], [], v, _, _ => ⟨0, by simp [fSub, dot]⟩
 | [], _ :: _, _, h, _ => by simp at h
 | _ :: _, [], _, h, _ => by simp at h
 | _ :: _, _ :: _, [], _, _ => ⟨0, by simp [fSub, dot]⟩
 | a :: f, b :: g, x :: v, h, hg => by
  obtain ⟨k, hk⟩ := dot_sub f g v (by simpa using h) fun y hy => hg y (by simp [hy])
  obtain ⟨q, hq⟩ := cong_mod (a + 4294967296 - b)
  have hb := hg b (by simp)
  have e : ((a + 4294967296 - b : Nat) : Int) = (a : Int) + 4294967296 - b := by omega
  rw [e] at hq
  refine ⟨k - q * x + x, ?_⟩
  simp only [fSub, List.zipWith_cons_cons, dot] at hk ⊢
  rw [hk, hq]
  grind
theorem dot_mul (k : Nat) : ∀ (f v : List Nat), Cong (dot (fMul f k) v) (dot f v * k)
 | [], v => ⟨0, by simp [fMul, dot]⟩
 | _ :: _, [] => ⟨0, by simp [fMul, dot]⟩
 | a :: f, x :: v => by
  obtain ⟨j, hj⟩ := dot_mul k f v
  obtain ⟨q, hq⟩ := cong_mod (a * k)
  refine ⟨j - q * x, ?_⟩
  simp only [fMul, List.map_cons, dot] at hj ⊢
  rw [hj, hq]
  simp only [Int.natCast_mul]
  grind
theorem head_tail {f : List Nat} (hf : f.length = 35) : ∃ c t, f = c :: t ∧ t.length = 34 := by
 match f, hf with
 | c :: t, h => exact ⟨c, t, rfl, by simpa using h⟩
theorem fEval_add {f g : List Nat} (hf : f.length = 35) (hg : g.length = 35) (hv : v.length = 34) : fEval (fAdd f g) v = (fEval f v + fEval g v) % 4294967296 := by
 obtain ⟨c, t, rfl, ht⟩ := head_tail hf
 obtain ⟨d, u, rfl, hu⟩ := head_tail hg
 have e : fAdd (c :: t) (d :: u) = ((c + d) % 4294967296) :: fAdd t u := rfl
 have h1 := fEval_dot (c := c) ht hv
 have h2 := fEval_dot (c := d) hu hv
 have h3 := fEval_dot (c := (c + d) % 4294967296) (t := fAdd t u) (v := v) (by simp [fAdd, ht, hu]) hv
 obtain ⟨k, hk⟩ := dot_add t u v (by omega)
 rw [hk] at h3
 rw [e]
 omega
theorem fEval_sub {f g : List Nat} (hf : f.length = 35) (hg : g.length = 35) (hgw : ∀ x ∈ g, x < 4294967296) (hv : v.length = 34) : fEval (fSub f g) v = (fEval f v + 4294967296 - fEval g v) % 4294967296 := by
 obtain ⟨c, t, rfl, ht⟩ := head_tail hf
 obtain ⟨d, u, rfl, hu⟩ := head_tail hg
 have e : fSub (c :: t) (d :: u) = ((c + 4294967296 - d) % 4294967296) :: fSub t u := rfl
 have h1 := fEval_dot (c := c) ht hv
 have h2 := fEval_dot (c := d) hu hv
 have h3 := fEval_dot (c := (c + 4294967296 - d) % 4294967296) (t := fSub t u) (v := v) (by simp [fSub, ht, hu]) hv
 obtain ⟨k, hk⟩ := dot_sub t u v (by omega) fun x hx => hgw x (by simp [hx])
 have hd := hgw d (by simp)
 rw [hk] at h3
 rw [e]
 omega
theorem fEval_mul {f : List Nat} (k : Nat) (hf : f.length = 35) (hv : v.length = 34) : fEval (fMul f k) v = fEval f v * k % 4294967296 := by
 obtain ⟨c, t, rfl, ht⟩ := head_tail hf
 have e : fMul (c :: t) k = (c * k % 4294967296) :: fMul t k := rfl
 have h1 := fEval_dot (c := c) ht hv
 have h3 := fEval_dot (c := c * k % 4294967296) (t := fMul t k) (v := v) (by simp [fMul, ht]) hv
 obtain ⟨j, hj⟩ := dot_mul k t v
 obtain ⟨q, hq⟩ := cong_mod (c * k)
 rw [hj, hq] at h3
 rw [e]
 have h5 : (fEval (c * k % 4294967296 :: fMul t k) v : Int) = ((c + dot t v) * k) % 4294967296 := by
  rw [h3]
  have : ((c * k : Nat) : Int) - 4294967296 * q + (dot t v * k + 4294967296 * j) = (c + dot t v) * k + 4294967296 * (j - q) := by simp only [Int.natCast_mul]; grind
  rw [this, Int.add_mul_emod_self_left]
 have h6 : ((fEval (c :: t) v * k % 4294967296 : Nat) : Int) = ((c + dot t v) * k) % 4294967296 := by
  rw [Int.natCast_emod, Int.natCast_mul, h1, show ((4294967296 : Nat) : Int) = 4294967296 from rfl, Int.mul_emod, Int.emod_emod, ← Int.mul_emod]
 omega
theorem dot_zeros : ∀ (n : Nat) (v : List Nat), dot (zeros n) v = 0
 | 0, _ => by simp [zeros, dot]
 | n + 1, [] => by simp [zeros, List.replicate_succ, dot]
 | n + 1, x :: v => by
  have := dot_zeros n v
  simp only [zeros, List.replicate_succ, dot] at this ⊢
  omega
theorem fEval_const {c : Nat} (hc : c < 4294967296) (hv : v.length = 34) : fEval (c :: zeros 34) v = c := by
 have h := fEval_dot (c := c) (t := zeros 34) (v := v) (by simp) hv
 rw [dot_zeros] at h
 omega
theorem dot_one : ∀ (n i : Nat) (v : List Nat) (h : i < v.length), i < n → dot ((zeros n).set i 1) v = (v[i] : Nat)
 | 0, i, v, h, hi => by omega
 | n + 1, i, [], h, hi => by simp at h
 | n + 1, 0, x :: v, h, hi => by
  have := dot_zeros n v
  simp only [zeros, List.replicate_succ, List.set_cons_zero, dot, List.getElem_cons_zero] at this ⊢
  omega
 | n + 1, i + 1, x :: v, h, hi => by
  have := dot_one n i v (by simpa using h) (by omega)
  simp only [zeros, List.replicate_succ, List.set_cons_succ, dot, List.getElem_cons_succ] at this ⊢
  omega
theorem fEval_var {i : Nat} (hi : i < 34) (hv : v.length = 34) (hw : ∀ x ∈ v, x < 4294967296) : fEval (varL i) v = v[i]'(by omega) := by
 have e : varL i = 0 :: (zeros 34).set i 1 := rfl
 have h := fEval_dot (c := 0) (t := (zeros 34).set i 1) (v := v) (by simp) hv
 have h2 := hw _ (List.getElem_mem (show i < v.length by omega))
 rw [dot_one 34 i v (by omega) hi] at h
 rw [e]
 omega
end Go.Ev
/- What arithmetic in a book comes to: plain laws. -/
namespace Go.Ev
open Go Go.RowKit
set_option maxRecDepth 10000
set_option maxHeartbeats 4000000
set_option linter.unusedSimpArgs false
set_option linter.unusedVariables false
variable {L L' : List Nd} {v : List Nat}
theorem val_const {c : Nat} (hc : c < 4294967296) (r : Int → Nat) : val [] [c] r = c := by
 rw [val, ← wordOf_self (w := c) hc]
 exact wordOf_ext fun i hi => by simp [sem, idx, wordOf_self (w := c) hc]
theorem val_var (i : Int) (r : Int → Nat) (hr : r i < 4294967296) : val [i] [0, ones] r = r i := by
 rw [val, ← wordOf_self (w := r i) hr]
 refine wordOf_ext fun j hj => ?_
 have e : ones.testBit j = true := by rw [ones, show 4294967295 = 2 ^ 32 - 1 from rfl, Nat.testBit_two_pow_sub_one]; simpa using hj
 cases h : (r i).testBit j <;> simp [sem, idx, h, e]
theorem xor_full {a : Nat} (ha : a < 4294967296) : a ^^^ ones = 4294967295 - a := by
 refine Nat.eq_of_testBit_eq fun j => ?_
 rw [Nat.testBit_xor, ones, show 4294967295 = 2 ^ 32 - 1 from rfl, Nat.testBit_two_pow_sub_one, show 2 ^ 32 - 1 - a = 2 ^ 32 - (a + 1) by omega, Nat.testBit_two_pow_sub_succ ha]
 by_cases hj : j < 32
 ·simp [hj]
 ·simp only [hj, decide_false, Bool.false_and, Bool.xor_false]
  exact Nat.testBit_lt_two_pow (Nat.lt_of_lt_of_le ha (Nat.pow_le_pow_right (n := 2) (i := 32) (by decide) (by omega)))
theorem val_not (i : Int) (r : Int → Nat) (hr : r i < 4294967296) : val [i] [ones, 0] r = 4294967295 - r i := by
 have h := val_do (kind := 164) (fv := [i]) (gv := []) (vs := [i]) (ft := [0, ones]) (gt := [ones]) (tab := [ones, 0]) (.inr (.inr rfl)) (fun p => by cases h : p i <;> simp [sem, idx, h, doW, ones]) r
 rw [val_var i r hr, val_const (by decide)] at h
 simp only [doW] at h
 rw [h]
 simp
 exact xor_full hr
theorem fConst_eq {f : List Nat} {c : Nat} (hf : f.length = 35) (h : fConst f = some c) : f = c :: zeros 34 := by
 obtain ⟨d, t, rfl, ht⟩ := head_tail hf
 rw [fConst] at h
 split at h
 ·rename_i e
  cases h
  rw [← e]; rfl
 ·cases h
theorem fOne_eq {f : List Nat} {i : Nat} (h : fOne f = some i) : f = varL i := by
 have := List.find?_some h
 simpa using this
theorem valI_nat (i : Nat) : valI v L i = (vals v L)[i]?.join := by
 rw [valI]
 by_cases h : i < L.length
 ·have : hasI L i = true := by simp [hasI]; exact h
  rw [if_pos this]; rfl
 ·have : ¬ hasI L i = true := by simp [hasI]; omega
  rw [if_neg this, List.getElem?_eq_none (by rw [vals_len]; omega)]; rfl
theorem nval_pre {a : Nd} {i : Nat} (ha : a.good i) (hl : i ≤ L.length) : nval v (vals v (L.take i)) a = nval v (vals v L) a := by
 rw [nval, nval]
 split
 ·rfl
 ·split
  ·rfl
  ·rcases ha.2.2 with h | h | ⟨_, hx, hy, _⟩
   ·contradiction
   ·contradiction
   ·rw [← vals_take, List.getElem?_take, if_pos hx, List.getElem?_take, if_pos hy]
theorem valI_at {i : Nat} {a : Nd} (h : Inv L) (ha : L[i]? = some a) : valI v L i = nval v (vals v L) a := by
 rw [valI_nat, vals_at ha, nval_pre (h.good i a ha) (by have := (List.getElem?_eq_some_iff.1 ha).1; omega)]
 rfl
theorem valI_ext {k i : Nat} (h : Ext L L' k) (hi : i < L.length) : valI v L' i = valI v L i := by
 rw [valI_nat, valI_nat, pre_get (vals_pre h.pre) (get_in (by rw [vals_len]; exact hi)), get_in (by rw [vals_len]; exact hi)]
theorem nval_asB {a : Nd} {p : List Int × List Nat} {acc : List (Option Nat)} (ha : a.ok) (haw : a.wf) (hp : asB a = some p) (hv : v.length = 34) (hw : ∀ x ∈ v, x < 4294967296) : nval v acc a = some (val p.1 p.2 (asg v)) := by
 by_cases h1 : a.kind = 1
 ·rw [nval, if_neg (by omega), if_pos h1, hp]; rfl
 ·have h0 : a.kind = 0 := by
   by_cases h0 : a.kind = 0
   ·exact h0
   ·rw [asB, if_neg h1, if_neg h0] at hp; cases hp
  have hg : ∀ (i : Nat) (h : i < 34), asg v (i : Int) = v[i]'(by omega) := fun i h => by
   rw [asg, Int.toNat_natCast, List.getD_eq_getElem?_getD, get_in (by omega)]; rfl
  have hgl : ∀ i : Nat, i < 34 → asg v (i : Int) < 4294967296 := fun i h => by rw [hg i h]; exact hw _ (List.getElem_mem _)
  rw [nval, if_pos h0]
  rw [asB, if_neg h1, if_pos h0] at hp
  congr 1
  split at hp
  ·rename_i c hc
   cases hp
   have hlt := fConst_lt hc haw.1
   rw [fConst_eq ha.1 hc, fEval_const hlt hv, val_const hlt]
  ·split at hp
   ·rename_i i hi
    cases hp
    have hl := fOne_lt hi
    rw [fOne_eq hi, fEval_var hl hv hw, val_var _ _ (hgl i hl), hg i hl]
   ·split at hp
    ·rename_i i hi
     cases hp
     have hl := fOne_lt hi
     have e := congrArg (fEval · v) (fOne_eq hi)
     rw [fEval_sub (by simp) ha.1 haw.1 hv, fEval_var hl hv hw, fEval_const (by decide) hv] at e
     have hb := fEval_lt a.f v
     rw [val_not _ _ (hgl i hl), hg i hl, ← e]
     simp only [ones]
     omega
    ·cases hp
def Res (v : List Nat) (p : Int × List Nd) (o : Option Nat) : Prop := ∃ i : Nat, p.1 = i ∧ i < p.2.length ∧ valI v p.2 i = o
theorem put_res {a : Nd} (h : Inv L) (ha : a.good L.length) : Res v (putN L a) (nval v (vals v L) a) := by
 obtain ⟨e, i, h1, h2⟩ := put_ext h ha
 refine ⟨i, h1, (List.getElem?_eq_some_iff.1 h2).1, ?_⟩
 rw [valI_at e.inv h2]
 have : L = (putN L a).2.take L.length := by
  obtain ⟨t, ht⟩ := e.pre
  rw [← ht, List.take_left' rfl]
 conv => rhs; rw [this]
 rw [nval_pre ha e.pre.length_le]
theorem sum_res {f : List Nat} (h : Inv L) (hf : f.length = 35) (hw : ∀ c ∈ f, c < 4294967296) : Res v (putN L (sumNd f)) (some (fEval f v)) := put_res h (sum_good hf hw _)
theorem bits_res {fv : List Int} {ft : List Nat} (h : Inv L) (hR : Right fv ft) (hw : ∀ c ∈ ft, c < 4294967296) (hv : v.length = 34) (hvw : ∀ x ∈ v, x < 4294967296) : Res v (bitsN L fv ft) (some (val fv ft (asg v))) := by
 obtain ⟨e, i, a, h1, h2, h3⟩ := bits_ext h hR hw
 refine ⟨i, h1, (List.getElem?_eq_some_iff.1 h2).1, ?_⟩
 have hg := e.inv.good i a h2
 rw [valI_at e.inv h2, nval_asB hg.1 hg.2.1 h3 hv hvw]
theorem aluV_some {kind : Int} {a c : Nat} (h : (doW kind a c).2 = true) : aluV kind (some a) (some c) = some (doW kind a c).1 := by rw [aluV]; simp only [h, if_true]
theorem doW_const_lsh {k : Nat} : (doW 100 1 k).1 = 2 ^ (k % 32) % 4294967296 := by simp [doW]
theorem sums_res {kind : Int} {a c : Nd} (h : Inv L) (ha : a.ok) (hc : c.ok) (haw : a.wf) (hcw : c.wf) (hv : v.length = 34) (ht : (sumsN L kind a c).2.1 = true) :
  a.kind = 0 ∧ c.kind = 0 ∧ Res v ((sumsN L kind a c).1, (sumsN L kind a c).2.2) (aluV kind (some (fEval a.f v)) (some (fEval c.f v))) := by
 rw [sumsN] at ht ⊢
 split at ht
 case isFalse => simp [noR] at ht
 rename_i hk
 rw [if_pos hk]
 refine ⟨hk.1, hk.2, ?_⟩
 have conv : ∀ (f : List Nat) (n : Nat), f.length = 35 → (∀ c ∈ f, c < 4294967296) → fEval f v = n → (doW kind (fEval a.f v) (fEval c.f v)).2 = true → (doW kind (fEval a.f v) (fEval c.f v)).1 = n →
   Res v ((okP (putN L (sumNd f))).1, (okP (putN L (sumNd f))).2.2) (aluV kind (some (fEval a.f v)) (some (fEval c.f v))) := fun f n hf hw e h1 h2 => by
  rw [aluV_some h1, h2, ← e]
  exact sum_res h hf hw
 by_cases k4 : kind = 4
 ·simp only [k4, if_true] at ht ⊢
  subst k4
  exact conv _ _ (fAdd_len ha.1 hc.1) (fAdd_lt _ _) (fEval_add ha.1 hc.1 hv) (by simp [doW]) (by simp [doW])
 by_cases k20 : kind = 20
 ·simp only [k4, k20, if_true, if_false] at ht ⊢
  subst k20
  exact conv _ _ (fSub_len ha.1 hc.1) (fSub_lt _ _) (fEval_sub ha.1 hc.1 hcw.1 hv) (by simp [doW]) (by simp [doW])
 simp only [k4, k20, if_false] at ht ⊢
 have mul : ∀ k, fConst c.f = some k → kind = 36 → Res v ((okP (putN L (sumNd (fMul a.f k)))).1, (okP (putN L (sumNd (fMul a.f k)))).2.2) (aluV kind (some (fEval a.f v)) (some (fEval c.f v))) := fun k ek k36 => by
  have hlt := fConst_lt ek hcw.1
  have ec : fEval c.f v = k := by rw [fConst_eq hc.1 ek, fEval_const hlt hv]
  subst k36
  exact conv _ _ (fMul_len _ ha.1) (fMul_lt _ _) (fEval_mul k ha.1 hv) (by simp [doW]) (by rw [ec]; simp [doW])
 have lsh : ∀ k, fConst c.f = some k → kind = 100 → Res v ((okP (putN L (sumNd (fMul a.f (doW 100 1 k).1)))).1, (okP (putN L (sumNd (fMul a.f (doW 100 1 k).1)))).2.2) (aluV kind (some (fEval a.f v)) (some (fEval c.f v))) := fun k ek k100 => by
  have hlt := fConst_lt ek hcw.1
  have ec : fEval c.f v = k := by rw [fConst_eq hc.1 ek, fEval_const hlt hv]
  subst k100
  refine conv _ _ (fMul_len _ ha.1) (fMul_lt _ _) (fEval_mul _ ha.1 hv) (by simp [doW]) ?_
  rw [ec, doW_const_lsh]
  simp [doW, Nat.mul_mod]
 split at ht
 ·rename_i u k eu ek
  try simp only [eu, ek]
  split at ht
  ·rename_i k36
   rw [if_pos k36]
   exact mul k ek k36
  ·rename_i k36
   rw [if_neg k36]
   split at ht
   ·rename_i k100
    rw [if_pos k100]
    exact lsh k ek k100
   ·rename_i k100
    rw [if_neg k100]
    simp only at ht
    have hu := fConst_lt eu haw.1
    have hk' := fConst_lt ek hcw.1
    have e1 : fEval a.f v = u := by rw [fConst_eq ha.1 eu, fEval_const hu hv]
    have e2 : fEval c.f v = k := by rw [fConst_eq hc.1 ek, fEval_const hk' hv]
    have hlt := doW32 kind hu hk'
    rw [e1, e2, aluV_some ht]
    have := sum_res (v := v) h (f := (doW kind u k).1 :: zeros 34) (by simp) (const_lt hlt)
    rwa [fEval_const hlt hv] at this
 ·rename_i k eu ek
  try simp only [eu, ek]
  split at ht
  ·rename_i k36
   rw [if_pos k36]
   exact mul k ek k36
  ·rename_i k36
   rw [if_neg k36]
   split at ht
   ·rename_i k100
    rw [if_pos k100]
    exact lsh k ek k100
   ·simp [noR] at ht
 ·rename_i u eu ek
  try simp only [eu, ek]
  split at ht
  ·rename_i k36
   rw [if_pos k36]
   have hu := fConst_lt eu haw.1
   have e1 : fEval a.f v = u := by rw [fConst_eq ha.1 eu, fEval_const hu hv]
   subst k36
   refine conv _ _ (fMul_len _ hc.1) (fMul_lt _ _) (fEval_mul u hc.1 hv) (by simp [doW]) ?_
   rw [e1]; simp [doW, Nat.mul_comm]
  ·simp [noR] at ht
 ·simp [noR] at ht
theorem both_res {kind : Int} {a c : Nd} (h : Inv L) (ha : a.wf) (hc : c.wf) (hv : v.length = 34) (hvw : ∀ x ∈ v, x < 4294967296) (ht : (bothN L kind a c).2.1 = true) :
  ∃ p q, asB a = some p ∧ asB c = some q ∧ Res v ((bothN L kind a c).1, (bothN L kind a c).2.2) (aluV kind (some (val p.1 p.2 (asg v))) (some (val q.1 q.2 (asg v)))) := by
 cases e1 : asB a with
 | none => simp [bothN, e1, noR] at ht
 | some p =>
  cases e2 : asB c with
  | none => simp [bothN, e1, e2, noR] at ht
  | some q =>
   cases e3 : bdo kind p q with
   | none => simp [bothN, e1, e2, e3, noR] at ht
   | some r =>
    refine ⟨p, q, rfl, rfl, ?_⟩
    simp only [bothN, e1, e2, e3, okP]
    obtain ⟨hok, hR, hw, hs⟩ := bdo_some e3
    have hd : ∀ x y, (doW kind x y).2 = true := fun x y => by rcases hok.1 with rfl | rfl | rfl <;> simp [doW]
    rw [aluV_some (hd _ _), ← val_do hok.1 hs]
    exact bits_res h hR hw hv hvw
theorem and_full {a : Nat} (ha : a < 4294967296) : a &&& 4294967295 = a := by
 rw [show 4294967295 = 2 ^ 32 - 1 from rfl, Nat.and_two_pow_sub_one_eq_mod]
 exact Nat.mod_eq_of_lt ha
theorem plain_res {kind : Int} {c : Nd} {x y : Int} {ox oy : Option Nat} (hx : ∀ w, ox = some w → w < 4294967296) (hc : c.ok) (hcw : c.wf) (hv : v.length = 34) (hy : c.kind = 0 → oy = some (fEval c.f v)) (hxy : x = y → ox = oy)
  (ht : (plainN kind (constA c) x y).2 = true) : (plainN kind (constA c) x y).1 = x ∧ ox = aluV kind ox oy := by
 have hk : ∀ k, constA c = some k → oy = some k := fun k hk => by
  rw [constA] at hk
  split at hk
  ·rename_i k0
   rw [hy k0, fConst_eq hc.1 hk, fEval_const (fConst_lt hk hcw.1) hv]
  ·cases hk
 have zero : constA c = some 0 → (∀ w, w < 4294967296 → doW kind w 0 = (w, true)) → ox = aluV kind ox oy := fun h0 hd => by
  rw [hk 0 h0]
  cases ox with
  | none => rfl
  | some w => simp only [aluV, hd w (hx w rfl), if_true]
 have same : x = y → (∀ w, w < 4294967296 → doW kind w w = (w, true)) → ox = aluV kind ox oy := fun h0 hd => by
  rw [← hxy h0]
  cases ox with
  | none => rfl
  | some w => simp only [aluV, hd w (hx w rfl), if_true]
 rw [plainN] at ht ⊢
 split at ht
 ·rename_i hkk
  rw [if_pos hkk]
  refine ⟨rfl, zero (by simpa using ht) fun w hw => ?_⟩
  rcases hkk with rfl | rfl | rfl | rfl <;> simp [doW] <;> omega
 ·rename_i h1
  rw [if_neg h1]
  split at ht
  ·rename_i h2
   rw [if_pos h2]
   subst h2
   refine ⟨rfl, ?_⟩
   simp at ht
   rcases ht with h | h
   ·exact zero h fun w hw => by simp [doW]
   ·exact same h fun w hw => by simp [doW]
  ·rename_i h2
   rw [if_neg h2]
   split at ht
   ·rename_i h3
    rw [if_pos h3]
    subst h3
    exact ⟨rfl, zero (by simpa using ht) fun w hw => by simp [doW]⟩
   ·rename_i h3
    rw [if_neg h3]
    split at ht
    ·rename_i h4
     rw [if_pos h4]
     subst h4
     refine ⟨rfl, ?_⟩
     simp at ht
     rcases ht with h | h
     ·rw [hk _ h]
      cases ox with
      | none => rfl
      | some w => simp [aluV, doW, ones, and_full (hx w rfl)]
     ·exact same h fun w hw => by simp [doW]
    ·simp at ht
theorem doW_swap {kind : Int} (h : swapsB kind = true) (a b : Nat) : doW kind a b = doW kind b a := by
 simp [swapsB] at h
 obtain ⟨h1, h2, h3, h4⟩ := h
 simp only [doW, h1, h2, h3, h4, if_false, Nat.add_comm a b, Nat.mul_comm a b, Nat.or_comm a b, Nat.and_comm a b, Nat.xor_comm a b]
theorem aluV_swap {kind : Int} (h : swapsB kind = true) (o o' : Option Nat) : aluV kind o o' = aluV kind o' o := by
 cases o <;> cases o' <;> simp [aluV]
 rw [doW_swap h]
theorem valI_lt {i : Nat} {w : Nat} (h : Inv L) (hw : valI v L i = some w) : w < 4294967296 := by
 rw [valI_nat] at hw
 cases e : (vals v L)[i]? with
 | none => rw [e] at hw; cases hw
 | some o =>
  rw [e] at hw
  have := vals_lt (k := L.length) (o := o) (i := i) h (by rw [List.take_length]; exact e)
  rw [show o = some w from hw] at this
  exact this
theorem alu_res {kind x y : Int} (h : Inv L) (hv : v.length = 34) (hvw : ∀ c ∈ v, c < 4294967296) (hk : (doW kind 0 1).2 = true) (hx : hasI L x = true) (hy : hasI L y = true) :
  Res v (bAlu L kind x y) (aluV kind (valI v L x) (valI v L y)) := by
 rw [bAlu, if_pos ⟨hk, hx, hy⟩]
 obtain ⟨hx0, hx1⟩ : 0 ≤ x ∧ x < L.length := by simpa [hasI] using hx
 obtain ⟨hy0, hy1⟩ : 0 ≤ y ∧ y < L.length := by simpa [hasI] using hy
 obtain ⟨xn, rfl⟩ := Int.eq_ofNat_of_zero_le hx0
 obtain ⟨yn, rfl⟩ := Int.eq_ofNat_of_zero_le hy0
 obtain ⟨a, ha⟩ : ∃ a, L[xn]? = some a := ⟨_, get_in (by omega)⟩
 obtain ⟨c, hc⟩ : ∃ c, L[yn]? = some c := ⟨_, get_in (by omega)⟩
 have hga := h.good _ _ ha
 have hgc := h.good _ _ hc
 simp only [Int.toNat_natCast, ha, hc]
 have e1 := sums_ext (kind := kind) h hga.1 hgc.1 hga.2.1 hgc.2.1
 obtain ⟨L1, hL1⟩ : ∃ L1, L1 = (sumsN L kind a c).2.2 := ⟨_, rfl⟩
 rw [← hL1] at e1
 have l1 := e1.pre.length_le
 have vx := valI_at (v := v) h ha
 have vy := valI_at (v := v) h hc
 have vx1 := valI_ext (v := v) e1 (i := xn) (by omega)
 have vy1 := valI_ext (v := v) e1 (i := yn) (by omega)
 have e2 := both_ext (kind := kind) e1.inv hga.2.1 hgc.2.1
 rw [bAlu2]
 simp only [← hL1]
 split
 ·rename_i ht
  obtain ⟨k1, k2, hr⟩ := sums_res (v := v) h hga.1 hgc.1 hga.2.1 hgc.2.1 hv ht
  rw [vx, vy, nval, if_pos k1, nval, if_pos k2, hL1]
  exact hr
 ·split
  ·rename_i ht
   obtain ⟨p, q, hp, hq, hr⟩ := both_res (v := v) e1.inv hga.2.1 hgc.2.1 hv hvw ht
   rw [vx, vy, nval_asB hga.1 hga.2.1 hp hv hvw, nval_asB hgc.1 hgc.2.1 hq hv hvw]
   exact hr
  ·have kx : a.kind = 0 → valI v L xn = some (fEval a.f v) := fun k => by rw [vx, nval, if_pos k]
   have ky : c.kind = 0 → valI v L yn = some (fEval c.f v) := fun k => by rw [vy, nval, if_pos k]
   split
   ·rename_i ht
    obtain ⟨h1, h2⟩ := plain_res (v := v) (x := (xn : Int)) (y := (yn : Int)) (fun w hw => valI_lt h hw) hgc.1 hgc.2.1 hv ky (fun e => by rw [e]) ht
    refine ⟨xn, h1, by show xn < L1.length; omega, ?_⟩
    rw [← h2]
    exact vx1
   ·split
    ·rename_i ht
     obtain ⟨h1, h2⟩ := plain_res (v := v) (x := (yn : Int)) (y := (xn : Int)) (fun w hw => valI_lt h hw) hga.1 hga.2.1 hv kx (fun e => by rw [e]) ht.2
     refine ⟨yn, h1, by show yn < L1.length; omega, ?_⟩
     rw [aluV_swap ht.1, ← h2]
     exact vy1
    ·have deed : ∀ u w : Nat, u < L.length → w < L.length → Res v (putN L1 (deedNd kind u w)) (aluV kind (valI v L u) (valI v L w)) := fun u w hu hw => by
      have := put_res (v := v) e1.inv (deed_good (kind := kind) (x := u) (y := w) hk (by omega) (by omega))
      have e : nval v (vals v L1) (deedNd kind u w) = aluV kind (valI v L u) (valI v L w) := by
       rw [← valI_ext (v := v) e1 hu, ← valI_ext (v := v) e1 hw, valI_nat, valI_nat]; rfl
      rwa [e] at this
     split
     ·rename_i ht
      rw [aluV_swap ht.1]
      exact deed yn xn (by omega) (by omega)
     ·exact deed xn yn (by omega) (by omega)
theorem var_res {i : Int} (h : Inv L) (hv : v.length = 34) (hvw : ∀ c ∈ v, c < 4294967296) (h0 : 0 ≤ i) (h1 : i < 34) : Res v (varN L i) (some (v[i.toNat]?.getD 0)) := by
 rw [varN, if_pos ⟨h0, h1⟩]
 have := sum_res (v := v) h (varL_len i.toNat) (varL_lt _)
 rw [fEval_var (by omega) hv hvw] at this
 rw [get_in (by omega)]
 exact this
theorem const_res {c : Nat} (h : Inv L) (hv : v.length = 34) (hc : c < 4294967296) : Res v (putN L (sumNd (c :: zeros 34))) (some c) := by
 have := sum_res (v := v) h (f := c :: zeros 34) (by simp) (const_lt hc)
 rwa [fEval_const hc hv] at this
theorem neg_res {x : Int} (h : Inv L) (hv : v.length = 34) (hvw : ∀ c ∈ v, c < 4294967296) (hx : hasI L x = true) : Res v (bNeg L x) ((valI v L x).map negW) := by
 rw [bNeg, if_pos hx]
 obtain ⟨hx0, hx1⟩ : 0 ≤ x ∧ x < L.length := by simpa [hasI] using hx
 obtain ⟨xn, rfl⟩ := Int.eq_ofNat_of_zero_le hx0
 have e := zero_ext h
 obtain ⟨i, h1, h2, h3⟩ := const_res (v := v) h hv (c := 0) (by decide)
 have hl := e.pre.length_le
 have r := alu_res (v := v) (kind := 20) (x := (negN' L).1) (y := (xn : Int)) e.inv hv hvw (by decide) (by rw [negN', h1]; simp [hasI]; exact h2) (by simp [hasI]; omega)
 have e1 : valI v (negN' L).2 (negN' L).1 = some 0 := by rw [negN', h1]; exact h3
 rw [e1, valI_ext e (by omega)] at r
 have e2 : aluV 20 (some 0) (valI v L xn) = (valI v L xn).map negW := by
  cases valI v L xn with
  | none => rfl
  | some w => simp [aluV, doW, negW]
 rwa [e2] at r
end Go.Ev
/- Which filters are sound: check. -/
namespace Go.Ev
open Go Go.RowKit
variable {G : Tbl}
set_option maxRecDepth 10000
set_option maxHeartbeats 2000000
set_option linter.unusedSimpArgs false
set_option linter.unusedVariables false
def ruleB (x : In4) : Bool :=
 if x.op = 32 then decide (x.k % 4 = 0 ∧ x.k < 64) else if x.op = 52 then decide (x.k ≠ 0) else if x.op = 2 ∨ x.op = 3 ∨ x.op = 96 ∨ x.op = 97 then decide (x.k < 16) else if x.op = 100 ∨ x.op = 116 then decide (x.k < 32) else true
def oneB (x : In4) (left : Nat) : Bool := rightI x && ruleB x && (if x.op = 5 then decide (x.k < left) else true) && (if isBr x.op then decide (x.jt < left ∧ x.jf < left) else true)
def okAll : List In4 → Bool
 | [] => true
 | x :: f => oneB x f.length && okAll f
def endB (f : List In4) : Bool := match f.getLast? with | some x => isEnd x.op | none => false
def soundF (f : List In4) : Bool := decide (f.length ≤ 4096) && okAll f && endB f
def rents : List (V × V) := [(.int .i64 32, .fn 152 [.ptr 0 0]), (.int .i64 52, .fn 153 [.ptr 0 0]), (.int .i64 2, .fn 150 [.ptr 0 0]), (.int .i64 3, .fn 150 [.ptr 0 0]), (.int .i64 96, .fn 150 [.ptr 0 0]), (.int .i64 97, .fn 150 [.ptr 0 0]),
 (.int .i64 100, .fn 151 [.ptr 0 0]), (.int .i64 116, .fn 151 [.ptr 0 0])]
theorem rules_ok [HasCheck G] : Big G (.F 154 [] [] (.mp 1) [some (.cells [.fn 149 []]), some (.map rents)]) := by
 refine F_of HasCheck.h_check_rules (Nat.le_of_ble_eq_true rfl) ?_
 simp [rents]
theorem if1_ok [HasCheck G] (H : Heap) (b : Bool) (n : Int) : Big G (.F 149 [.bool b, .int .i64 n] H (.int .i64 (if b then 0 else n)) H) := by
 refine F_of HasCheck.h_check_rules_1 (Nat.le_of_ble_eq_true rfl) ?_
 cases b <;> simp
def RH (x : In4) : Heap := [some (.cells [.fn 149 []]), some (.map rents), some (.cells x.cs)]
theorem rents_cl (n : Nat) (h : 0 < n) : rents.map (fun p => (p.1.cl n, p.2.cl n)) = rents := by simp [rents, h]
theorem rule_any {f : Nat} [HasCheck G] (x : In4) (e : Int) (h : f = 150 ∧ e = (if decide (x.k < 16) then 0 else 7) ∨ f = 151 ∧ e = (if decide (x.k < 32) then 0 else 1) ∨ f = 152 ∧ e = (if decide (x.k % 4 = 0 ∧ x.k < 64) then 0 else 6) ∨ f = 153 ∧ e = (if decide (x.k ≠ 0) then 0 else 8)) :
  Big G (.F f [IV x, .ptr 0 0] (RH x) (.int .i64 e) (RH x ++ [some (.cells x.cs)])) := by
 have hr : remI (x.k : Int) 4 = ((x.k % 4 : Nat) : Int) := rem64 (b := 4)
 have l16 : ((x.k : Int) < 16) = (x.k < 16) := propext (by omega)
 have l32 : ((x.k : Int) < 32) = (x.k < 32) := propext (by omega)
 have l64 : ((x.k : Int) < 64) = (x.k < 64) := propext (by omega)
 have ne : ((x.k : Int) != 0) = decide (x.k ≠ 0) := by rw [Bool.eq_iff_iff]; simp
 rcases h with ⟨rfl, rfl⟩ | ⟨rfl, rfl⟩ | ⟨rfl, rfl⟩ | ⟨rfl, rfl⟩
 ·refine F_of HasCheck.h_check_rules_2 (Nat.le_of_ble_eq_true rfl) ?_
  simp [IV, In4.cs, RH, l16]
  refine callV_of (if1_ok _ _ _) (by simp) ?_
  simp [trunc, rents_cl]
 ·refine F_of HasCheck.h_check_rules_3 (Nat.le_of_ble_eq_true rfl) ?_
  simp [IV, In4.cs, RH, l32]
  refine callV_of (if1_ok _ _ _) (by simp) ?_
  simp [trunc, rents_cl]
 ·refine F_of HasCheck.h_check_rules_4 (Nat.le_of_ble_eq_true rfl) ?_
  by_cases h4 : x.k % 4 = 0
  ·simp [IV, In4.cs, RH, hr, h4, l64]
   refine callV_of (if1_ok _ _ _) (by simp) ?_
   simp [trunc, rents_cl]
  ·have : ((x.k % 4 : Nat) : Int) ≠ 0 := by omega
   simp [IV, In4.cs, RH, hr, h4, beqF this, -Int.natCast_emod]
   refine callV_of (if1_ok _ _ _) (by simp) ?_
   simp [trunc, rents_cl]
 ·refine F_of HasCheck.h_check_rules_5 (Nat.le_of_ble_eq_true rfl) ?_
  simp [IV, In4.cs, RH, ne]
  refine callV_of (if1_ok _ _ _) (by simp) ?_
  simp [trunc, rents_cl]
def waysL (x : In4) (at' : Nat) : List Int := if isEnd x.op then [] else if x.op = 5 then [((at' + 1 + x.k : Nat) : Int)] else if isBr x.op then [(at' : Int) + 1 + min x.jt x.jf, (at' : Int) + 1 + max x.jt x.jf] else [((at' + 1 : Nat) : Int)]
def In4.brOk (x : In4) : Prop := isBr x.op = true → 0 ≤ x.jt ∧ x.jt ≤ 255 ∧ 0 ≤ x.jf ∧ x.jf ≤ 255
theorem right_br {x : In4} (h : rightI x = true) : x.brOk := by
 intro hb
 unfold rightI at h
 split at h
 ·rename_i r hr
  have key : ∀ r ∈ shapeRows, isBr r.1 = r.2.2.2 := by decide
  obtain ⟨h1, h2⟩ := shape_some hr
  have := key r h2
  rw [h1, hb] at this
  simp only [← this, if_true, Bool.and_eq_true, decide_eq_true_eq] at h
  exact h.2
 ·cases h
theorem convI64 (n : Nat) (h : n < 4294967296) : convI .i64 (n : Int) = (n : Int) := by unfold convI; exact IntWalk.i64_in _ ⟨by omega, by omega⟩
theorem ways_ok [HasIns G] [HasCheck G] (x : In4) (at' : Nat) (hx : x.k < 4294967296) (hb : x.brOk) (ha : at' ≤ 5000) : FP G 155 [IV x, .int .i64 at'] (.vs (ints .i64 (waysL x at')) .no) := by
 refine FP_of HasCheck.h_check_ways (Nat.le_of_ble_eq_true rfl) ?_
 have he := Ends_ok (G := G) x
 have hbr := Branch_ok (G := G) x
 have a1 : addI .i64 (at' : Int) 1 = ((at' + 1 : Nat) : Int) := add1' (by omega)
 simp [IV, In4.cs, a1, -Int.natCast_add] at he hbr ⊢
 refine callP_of he ?_
 cases h1 : isEnd x.op
 ·have n6 : isEnd x.op = false := h1
  simp
  by_cases h5 : x.op = 5
  ·have a2 : addI .i64 ((at' + 1 : Nat) : Int) (x.k : Int) = ((at' + 1 + x.k : Nat) : Int) := addN (by omega)
   have a2' : addI .i64 ((at' : Int) + 1) (x.k : Int) = ((at' + 1 + x.k : Nat) : Int) := by rw [← addN (a := at' + 1) (b := x.k) (by omega)]; rfl
   have h15 : isEnd 5 = false := by decide
   simp [h5, h15, convI64 x.k hx, a2, a2', waysL, ints, -Int.natCast_add]
  ·simp [h5, beqF]
   refine callP_of hbr ?_
   cases h2 : isBr x.op
   ·simp [waysL, h1, h5, h2, ints]
   ·obtain ⟨b1, b2, b3, b4⟩ := hb h2
    have mn : (if x.jf < x.jt then x.jf else x.jt) = min x.jt x.jf := by omega
    have mx : (if x.jf > x.jt then x.jf else x.jt) = max x.jt x.jf := by omega
    have a3 : addI .i64 ((at' + 1 : Nat) : Int) (min x.jt x.jf) = (at' : Int) + 1 + min x.jt x.jf := by rw [addI64] <;> omega
    have a4 : addI .i64 ((at' + 1 : Nat) : Int) (max x.jt x.jf) = (at' : Int) + 1 + max x.jt x.jf := by rw [addI64] <;> omega
    have mx' : (if x.jt < x.jf then x.jf else x.jt) = max x.jt x.jf := by omega
    have mn' : (if x.jt > x.jf then x.jf else x.jt) = min x.jt x.jf := by omega
    have mn2 : (if x.jt ≤ x.jf then x.jt else x.jf) = min x.jt x.jf := by omega
    have a5 : addI .i64 ((at' : Int) + 1) (min x.jt x.jf) = (at' : Int) + 1 + min x.jt x.jf := by rw [addI64] <;> omega
    have a6 : addI .i64 ((at' : Int) + 1) (max x.jt x.jf) = (at' : Int) + 1 + max x.jt x.jf := by rw [addI64] <;> omega
    simp [mn, mx, mx', mn', a3, a4, a5, a6, waysL, h1, h5, h2, ints, -Int.natCast_add]
 ·simp [waysL, h1]
def rpos (op : Int) : Option (Nat × Nat) :=
 if op = 32 then some (0, 152) else if op = 52 then some (1, 153) else if op = 2 then some (2, 150) else if op = 3 then some (3, 150) else if op = 96 then some (4, 150) else if op = 97 then some (5, 150) else
 if op = 100 then some (6, 151) else if op = 116 then some (7, 151) else none
theorem rents_find (op : Int) : mfind (.sc .int) (.int .i64 op) rents 0 = some ((rpos op).map fun p => (p.1, .fn p.2 [.ptr 0 0])) := by
 unfold rpos rents
 by_cases h1 : op = 32; · subst h1; rfl
 by_cases h2 : op = 52; · subst h2; rfl
 by_cases h3 : op = 2; · subst h3; rfl
 by_cases h4 : op = 3; · subst h4; rfl
 by_cases h5 : op = 96; · subst h5; rfl
 by_cases h6 : op = 97; · subst h6; rfl
 by_cases h7 : op = 100; · subst h7; rfl
 by_cases h8 : op = 116; · subst h8; rfl
 simp [mfind, keyEq, eqk, h1, h2, h3, h4, h5, h6, h7, h8, beqF]
theorem rule_ok [HasCheck G] (x : In4) {i f : Nat} (h : rpos x.op = some (i, f)) : ∃ e : Int, Big G (.F f [IV x, .ptr 0 0] (RH x) (.int .i64 e) (RH x ++ [some (.cells x.cs)])) ∧ (e = 0 ↔ ruleB x = true) := by
 unfold rpos at h
 have r4 (a : Bool) (n : Int) (hn : n ≠ 0) : ((if a = true then 0 else n) = 0 ↔ a = true) := by cases a <;> simp [hn]
 unfold ruleB
 split at h
 ·rename_i h1; cases h; exact ⟨_, rule_any x _ (.inr (.inr (.inl ⟨rfl, rfl⟩))), by rw [r4 _ _ (by decide), if_pos h1]⟩
 split at h
 ·rename_i h0 h1; cases h; exact ⟨_, rule_any x _ (.inr (.inr (.inr ⟨rfl, rfl⟩))), by rw [r4 _ _ (by decide), if_neg h0, if_pos h1]⟩
 have two : ¬ x.op = 32 → ¬ x.op = 52 → x.op = 2 ∨ x.op = 3 ∨ x.op = 96 ∨ x.op = 97 → some (i, f) = some (i, 150) → ∃ e : Int, Big G (.F f [IV x, .ptr 0 0] (RH x) (.int .i64 e) (RH x ++ [some (.cells x.cs)])) ∧
   (e = 0 ↔ (if x.op = 32 then decide (x.k % 4 = 0 ∧ x.k < 64) else if x.op = 52 then decide (x.k ≠ 0) else if x.op = 2 ∨ x.op = 3 ∨ x.op = 96 ∨ x.op = 97 then decide (x.k < 16) else if x.op = 100 ∨ x.op = 116 then decide (x.k < 32) else true) = true) := by
  intro h0 h1 h2 h3; cases h3
  exact ⟨_, rule_any x _ (.inl ⟨rfl, rfl⟩), by rw [r4 _ _ (by decide), if_neg h0, if_neg h1, if_pos h2]⟩
 rename_i n1 n2
 split at h
 ·rename_i h1; cases h; exact two n1 n2 (.inl h1) rfl
 split at h
 ·rename_i h1; cases h; exact two n1 n2 (.inr (.inl h1)) rfl
 split at h
 ·rename_i h1; cases h; exact two n1 n2 (.inr (.inr (.inl h1))) rfl
 split at h
 ·rename_i h1; cases h; exact two n1 n2 (.inr (.inr (.inr h1))) rfl
 rename_i n3 n4 n5 n6
 have n7 : ¬ (x.op = 2 ∨ x.op = 3 ∨ x.op = 96 ∨ x.op = 97) := by omega
 split at h
 ·rename_i h1; cases h; exact ⟨_, rule_any x _ (.inr (.inl ⟨rfl, rfl⟩)), by rw [r4 _ _ (by decide), if_neg n1, if_neg n2, if_neg n7, if_pos (.inl h1)]⟩
 split at h
 ·rename_i h1; cases h; exact ⟨_, rule_any x _ (.inr (.inl ⟨rfl, rfl⟩)), by rw [r4 _ _ (by decide), if_neg n1, if_neg n2, if_neg n7, if_pos (.inr h1)]⟩
 cases h
theorem rule_none {x : In4} (h : rpos x.op = none) : ruleB x = true := by
 unfold rpos at h
 unfold ruleB
 repeat' split at h
 all_goals first | (cases h; done) | skip
 rw [if_neg (by omega), if_neg (by omega), if_neg (by omega), if_neg (by omega)]
end Go.Ev
/- Which filters are sound: check.Check. -/
namespace Go.Ev
open Go Go.RowKit
variable {G : Tbl}
set_option maxRecDepth 10000
set_option maxHeartbeats 2000000
set_option linter.unusedSimpArgs false
set_option linter.unusedVariables false
theorem okAll_drop {f : List In4} {i : Nat} (h : i < f.length) : okAll (f.drop i) = (oneB f[i] (f.length - 1 - i) && okAll (f.drop (i + 1))) := by
 rw [List.drop_eq_getElem_cons h]
 simp only [okAll, List.length_drop]
 congr 2; omega
theorem FL_get {f : List In4} {i : Nat} (h : i < f.length) : (IL f)[i]? = some f[i].cs := by simp [List.getElem?_eq_getElem h]
def Rch (f : List In4) (v : V) : Prop := ∃ i e : Int, v = .tup [.int .i64 i, .int .i64 e] ∧ (e = 0 ↔ soundF f = true)
theorem sound_of {f : List In4} (h0 : f ≠ []) (h1 : f.length ≤ 4096) (h2 : okAll f = true) (h3 : isEnd (f[f.length - 1]'(by have := List.length_pos_iff.2 h0; omega)).op = true) : soundF f = true := by
 have : f.getLast? = some (f[f.length - 1]'(by have := List.length_pos_iff.2 h0; omega)) := by rw [List.getLast?_eq_getElem?]; exact List.getElem?_eq_getElem _
 simp [soundF, endB, h1, h2, this, h3]
theorem unsound_end {f : List In4} (h0 : f ≠ []) (h3 : isEnd (f[f.length - 1]'(by have := List.length_pos_iff.2 h0; omega)).op = false) : soundF f = false := by
 have : f.getLast? = some (f[f.length - 1]'(by have := List.length_pos_iff.2 h0; omega)) := by rw [List.getLast?_eq_getElem?]; exact List.getElem?_eq_getElem _
 simp [soundF, endB, this, h3]
theorem unsound_ok {f : List In4} (h : okAll f = false) : soundF f = false := by simp [soundF, h]
def H2 : Heap := [some (.cells [.fn 149 []]), some (.map rents)]
theorem ways_iff {x : In4} {i n : Nat} (h : i < n) (ht : (x.op == 5 || isBr x.op) = true) :
  (∀ w ∈ waysL x i, w < (n : Int)) ↔ ((if x.op = 5 then decide (x.k < n - 1 - i) else true) && (if isBr x.op then decide (x.jt < (n - 1 - i : Nat) ∧ x.jf < (n - 1 - i : Nat)) else true)) = true := by
 by_cases h5 : x.op = 5
 ·have e5 : isEnd x.op = false := by rw [h5]; decide
  have b5 : isBr x.op = false := by rw [h5]; decide
  rw [if_pos h5, b5]
  rw [h5] at e5
  simp only [waysL, e5, h5, Bool.false_eq_true, if_false, if_true, List.mem_singleton, forall_eq, Bool.and_true, decide_eq_true_eq]
  omega
 ·have hb : isBr x.op = true := by simpa [h5, beqF] using ht
  have he : isEnd x.op = false := by
   have key : ∀ p ∈ [21, 37, 53, 69, 29, 45, 61, (77 : Int)], isEnd p = false := by decide
   exact key _ (by simpa [isBr] using hb)
  rw [if_neg h5, if_pos hb]
  simp only [waysL, he, h5, hb, Bool.false_eq_true, if_false, if_true, List.mem_cons, List.not_mem_nil, or_false, forall_eq_or_imp, forall_eq, Bool.true_and, decide_eq_true_eq]
  omega
theorem ways_none {x : In4} (ht : (x.op == 5 || isBr x.op) = false) (left : Nat) : ((if x.op = 5 then decide (x.k < left) else true) && (if isBr x.op then decide (x.jt < left ∧ x.jf < left) else true)) = true := by
 simp only [Bool.or_eq_false_iff, beq_eq_false_iff_ne] at ht
 simp [ht.1, ht.2]
theorem one_of {x : In4} {left : Nat} (h1 : rightI x = true) (h2 : ruleB x = true) : oneB x left = ((if x.op = 5 then decide (x.k < left) else true) && (if isBr x.op then decide (x.jt < left ∧ x.jf < left) else true)) := by
 simp [oneB, h1, h2]
theorem ways_len (x : In4) (i : Nat) : (waysL x i).length ≤ 2 := by unfold waysL; split; simp; split; simp; split <;> simp
theorem Check_ok [HasIns G] [HasCheck G] (f : List In4) (hf : f.length ≤ maxLen) (hk : ∀ x ∈ f, x.k < 4294967296) : ∃ v, FP G 156 [FL f] v ∧ Rch f v := by
 refine FPx_of HasCheck.h_check_Check (Nat.le_of_ble_eq_true rfl) ?_
 by_cases h0 : f = []
 ·subst h0
  simp [FL]
  exact ⟨0, 5, rfl, by decide⟩
 have hne : 0 < f.length := List.length_pos_iff.2 h0
 have hz : ((f.length : Int) = 0) = False := eq_false (by omega)
 by_cases hbig : f.length > 4096
 ·have hb : ((4096 : Int) < (f.length : Int)) = True := eq_true (by omega)
  have : soundF f = false := by simp [soundF, show ¬ f.length ≤ 4096 by omega]
  simp [FL, h0, hb, beqI]
  exact ⟨0, 3, rfl, by simp [this]⟩
 have hb : ((4096 : Int) < (f.length : Int)) = False := eq_false (by omega)
 simp [FL, h0, hb, beqI]
 refine callK_of rules_ok (by simp) ?_
 simp
 refine W_up f.length (fun i => [(0, FL f), (4, .mp 1), (22, FL f), (23, .int .i64 f.length), (24, .int .i64 i)]) (fun _ => H2) (fun i => okAll (f.take 0) = true ∧ okAll f = okAll (f.drop i)) ?_ ?_
 ·simp [keep_cl, trunc, H2, rents_cl, FL, okAll]
 intro i hi hn
 by_cases hlt : i < f.length
 ·have hx := FL_get hlt
  have hg : f[i] ∈ f := List.getElem_mem hlt
  have hkk := hk _ hg
  have hdr := okAll_drop hlt
  have bad : oneB f[i] (f.length - 1 - i) = false → ∀ j e : Int, e ≠ 0 → Rch f (.tup [.int .i64 j, .int .i64 e]) := by
   intro h j e he
   rw [h] at hdr
   exact ⟨j, e, rfl, by simp [he, unsound_ok (hn.2.trans hdr)]⟩
  generalize f[i] = x at hx hkk hdr hg bad
  have hr := RightI_ok (G := G) x
  have hbr := Branch_ok (G := G) x
  simp [IV, In4.cs] at hr hbr
  simp (disch := omega) [H2, ltT, FL, hx, In4.cs, beqI, -Int.natCast_add]
  refine callP_of hr ?_
  cases h1 : rightI x
  ·simp
   exact bad (by simp [oneB, h1]) _ _ (by decide)
  simp [rents_find]
  cases h2 : rpos x.op with
  | none =>
   have hrule := rule_none h2
   by_cases h5 : x.op = 5
   ·have htg5 : (x.op == 5 || isBr x.op) = true := by simp [h5]
    have hb5 : (x.op == 5) = true := by simp [h5]
    simp [hb5, trunc, rents_cl, keep_cl]
    have hw := ways_ok (G := G) x i hkk (right_br h1) (by omega)
    simp [IV, In4.cs] at hw
    have htg : ∃ tg, tg = (x.op == 5 || isBr x.op) := ⟨_, rfl⟩
    obtain ⟨tg, htg⟩ := htg
    have hwl := ways_len x i
    have fin : (tg = true → ∀ w ∈ waysL x i, w < (f.length : Int)) → okAll f = okAll (f.drop (i + 1)) := by
     intro hall
     rw [hn.2, hdr, one_of h1 hrule]
     cases tg with
     | false => rw [ways_none htg.symm]; simp
     | true => rw [(ways_iff hlt htg.symm).1 (hall rfl)]; simp
    have bad' : tg = true → ∀ w ∈ waysL x i, ¬ w < (f.length : Int) → oneB x (f.length - 1 - i) = false := by
     intro ht w hm hw'
     rw [one_of h1 hrule]
     rw [ht] at htg
     rw [← Bool.not_eq_true]
     intro h; exact hw' ((ways_iff hlt htg.symm).2 h w hm)
    have loop : ∀ (w : List Int), w.length ≤ 2 → (∀ v ∈ w, v ∈ waysL x i) → True := fun _ _ _ => trivial
    generalize waysL x i = w at hw hwl fin bad' loop
    refine callP_of hw ?_
    simp
    refine W_up w.length (fun j => [(0, FL f), (4, .mp 1), (5, .int .i64 i), (9, .bool tg), (22, FL f), (23, .int .i64 f.length), (24, .int .i64 i), (55, .vs (ints .i64 w) .no), (56, .int .i64 w.length), (57, .int .i64 j)])
     (fun _ => [some (.cells [.fn 149 []]), some (.map rents), some (.cells [.int .i64 x.op, .int .i64 x.jt, .int .i64 x.jf, .int .u32 (x.k : Int)])]) (fun j => tg = true → ∀ v ∈ w.take j, v < (f.length : Int)) ?_ ?_
    ·simp [keep_cl, trunc, FL, rents_cl, htg.trans htg5]
    intro j hj hp
    by_cases hjl : j < w.length
    ·by_cases hv : tg = true ∧ ¬ w[j] < (f.length : Int)
     ·have hb := bad' hv.1 _ (List.getElem_mem hjl) hv.2
      have hv2 : ((f.length : Int) ≤ w[j]) = True := eq_true (by omega)
      simp (disch := omega) [ltT, hjl, hv.1, hv2, FL, get_in, -Int.natCast_add]
      exact bad hb i 4 (by decide)
     ·have hp' : tg = true → ∀ v ∈ w.take (j + 1), v < (f.length : Int) := by
       intro ht v hm
       rw [List.take_add_one, List.getElem?_eq_getElem hjl] at hm
       simp only [Option.toList, List.mem_append, List.mem_singleton] at hm
       rcases hm with hm | rfl
       ·exact hp ht v hm
       ·exact Int.not_le.1 fun h => hv ⟨ht, by omega⟩
      cases htt : tg with
      | false =>
       simp (disch := omega) [ltT, hjl, FL, get_in, keep_cl, trunc, rents_cl, add1', -Int.natCast_add]
      | true =>
       have hv2 : ((f.length : Int) ≤ w[j]) = False := eq_false fun h => hv ⟨htt, by omega⟩
       simp (disch := omega) [ltT, hjl, FL, get_in, hv2, keep_cl, trunc, rents_cl, add1', -Int.natCast_add]
       rw [htt] at hp'
       exact hp' rfl
    ·have hjn : j = w.length := by omega
     subst hjn
     rw [List.take_length] at hp
     have hfin := fin hp
     simp (disch := omega) [hlt, keep_cl, trunc, rents_cl, H2, FL, add1', hfin, okAll, -Int.natCast_add]
   ·have htg5 : (x.op == 5 || isBr x.op) = isBr x.op := by simp [h5]
    simp [beqF, h5, trunc, rents_cl, keep_cl]
    refine callP_of hbr ?_
    simp
    have hw := ways_ok (G := G) x i hkk (right_br h1) (by omega)
    simp [IV, In4.cs] at hw
    have htg : ∃ tg, tg = (x.op == 5 || isBr x.op) := ⟨_, rfl⟩
    obtain ⟨tg, htg⟩ := htg
    have hwl := ways_len x i
    have fin : (tg = true → ∀ w ∈ waysL x i, w < (f.length : Int)) → okAll f = okAll (f.drop (i + 1)) := by
     intro hall
     rw [hn.2, hdr, one_of h1 hrule]
     cases tg with
     | false => rw [ways_none htg.symm]; simp
     | true => rw [(ways_iff hlt htg.symm).1 (hall rfl)]; simp
    have bad' : tg = true → ∀ w ∈ waysL x i, ¬ w < (f.length : Int) → oneB x (f.length - 1 - i) = false := by
     intro ht w hm hw'
     rw [one_of h1 hrule]
     rw [ht] at htg
     rw [← Bool.not_eq_true]
     intro h; exact hw' ((ways_iff hlt htg.symm).2 h w hm)
    have loop : ∀ (w : List Int), w.length ≤ 2 → (∀ v ∈ w, v ∈ waysL x i) → True := fun _ _ _ => trivial
    generalize waysL x i = w at hw hwl fin bad' loop
    refine callP_of hw ?_
    simp
    refine W_up w.length (fun j => [(0, FL f), (4, .mp 1), (5, .int .i64 i), (9, .bool tg), (22, FL f), (23, .int .i64 f.length), (24, .int .i64 i), (55, .vs (ints .i64 w) .no), (56, .int .i64 w.length), (57, .int .i64 j)])
     (fun _ => [some (.cells [.fn 149 []]), some (.map rents), some (.cells [.int .i64 x.op, .int .i64 x.jt, .int .i64 x.jf, .int .u32 (x.k : Int)])]) (fun j => tg = true → ∀ v ∈ w.take j, v < (f.length : Int)) ?_ ?_
    ·simp [keep_cl, trunc, FL, rents_cl, htg.trans htg5]
    intro j hj hp
    by_cases hjl : j < w.length
    ·by_cases hv : tg = true ∧ ¬ w[j] < (f.length : Int)
     ·have hb := bad' hv.1 _ (List.getElem_mem hjl) hv.2
      have hv2 : ((f.length : Int) ≤ w[j]) = True := eq_true (by omega)
      simp (disch := omega) [ltT, hjl, hv.1, hv2, FL, get_in, -Int.natCast_add]
      exact bad hb i 4 (by decide)
     ·have hp' : tg = true → ∀ v ∈ w.take (j + 1), v < (f.length : Int) := by
       intro ht v hm
       rw [List.take_add_one, List.getElem?_eq_getElem hjl] at hm
       simp only [Option.toList, List.mem_append, List.mem_singleton] at hm
       rcases hm with hm | rfl
       ·exact hp ht v hm
       ·exact Int.not_le.1 fun h => hv ⟨ht, by omega⟩
      cases htt : tg with
      | false =>
       simp (disch := omega) [ltT, hjl, FL, get_in, keep_cl, trunc, rents_cl, add1', -Int.natCast_add]
      | true =>
       have hv2 : ((f.length : Int) ≤ w[j]) = False := eq_false fun h => hv ⟨htt, by omega⟩
       simp (disch := omega) [ltT, hjl, FL, get_in, hv2, keep_cl, trunc, rents_cl, add1', -Int.natCast_add]
       rw [htt] at hp'
       exact hp' rfl
    ·have hjn : j = w.length := by omega
     subst hjn
     rw [List.take_length] at hp
     have hfin := fin hp
     simp (disch := omega) [hlt, keep_cl, trunc, rents_cl, H2, FL, add1', hfin, okAll, -Int.natCast_add]
  | some p =>
   obtain ⟨n, fn⟩ := p
   obtain ⟨e, he, hee⟩ := rule_ok (G := G) x h2
   simp
   simp [RH, In4.cs, IV] at he
   refine callV_of he (by simp) ?_
   by_cases h0e : e = 0
   ·have hrule := hee.1 h0e
    subst h0e
    by_cases h5 : x.op = 5
    ·have htg5 : (x.op == 5 || isBr x.op) = true := by simp [h5]
     have hb5 : (x.op == 5) = true := by simp [h5]
     simp [hb5, trunc, rents_cl, keep_cl]
     have hw := ways_ok (G := G) x i hkk (right_br h1) (by omega)
     simp [IV, In4.cs] at hw
     have htg : ∃ tg, tg = (x.op == 5 || isBr x.op) := ⟨_, rfl⟩
     obtain ⟨tg, htg⟩ := htg
     have hwl := ways_len x i
     have fin : (tg = true → ∀ w ∈ waysL x i, w < (f.length : Int)) → okAll f = okAll (f.drop (i + 1)) := by
      intro hall
      rw [hn.2, hdr, one_of h1 hrule]
      cases tg with
      | false => rw [ways_none htg.symm]; simp
      | true => rw [(ways_iff hlt htg.symm).1 (hall rfl)]; simp
     have bad' : tg = true → ∀ w ∈ waysL x i, ¬ w < (f.length : Int) → oneB x (f.length - 1 - i) = false := by
      intro ht w hm hw'
      rw [one_of h1 hrule]
      rw [ht] at htg
      rw [← Bool.not_eq_true]
      intro h; exact hw' ((ways_iff hlt htg.symm).2 h w hm)
     have loop : ∀ (w : List Int), w.length ≤ 2 → (∀ v ∈ w, v ∈ waysL x i) → True := fun _ _ _ => trivial
     generalize waysL x i = w at hw hwl fin bad' loop
     refine callP_of hw ?_
     simp
     refine W_up w.length (fun j => [(0, FL f), (4, .mp 1), (5, .int .i64 i), (9, .bool tg), (22, FL f), (23, .int .i64 f.length), (24, .int .i64 i), (55, .vs (ints .i64 w) .no), (56, .int .i64 w.length), (57, .int .i64 j)])
      (fun _ => [some (.cells [.fn 149 []]), some (.map rents), some (.cells [.int .i64 x.op, .int .i64 x.jt, .int .i64 x.jf, .int .u32 (x.k : Int)])]) (fun j => tg = true → ∀ v ∈ w.take j, v < (f.length : Int)) ?_ ?_
     ·simp [keep_cl, trunc, FL, rents_cl, htg.trans htg5]
     intro j hj hp
     by_cases hjl : j < w.length
     ·by_cases hv : tg = true ∧ ¬ w[j] < (f.length : Int)
      ·have hb := bad' hv.1 _ (List.getElem_mem hjl) hv.2
       have hv2 : ((f.length : Int) ≤ w[j]) = True := eq_true (by omega)
       simp (disch := omega) [ltT, hjl, hv.1, hv2, FL, get_in, -Int.natCast_add]
       exact bad hb i 4 (by decide)
      ·have hp' : tg = true → ∀ v ∈ w.take (j + 1), v < (f.length : Int) := by
        intro ht v hm
        rw [List.take_add_one, List.getElem?_eq_getElem hjl] at hm
        simp only [Option.toList, List.mem_append, List.mem_singleton] at hm
        rcases hm with hm | rfl
        ·exact hp ht v hm
        ·exact Int.not_le.1 fun h => hv ⟨ht, by omega⟩
       cases htt : tg with
       | false =>
        simp (disch := omega) [ltT, hjl, FL, get_in, keep_cl, trunc, rents_cl, add1', -Int.natCast_add]
       | true =>
        have hv2 : ((f.length : Int) ≤ w[j]) = False := eq_false fun h => hv ⟨htt, by omega⟩
        simp (disch := omega) [ltT, hjl, FL, get_in, hv2, keep_cl, trunc, rents_cl, add1', -Int.natCast_add]
        rw [htt] at hp'
        exact hp' rfl
     ·have hjn : j = w.length := by omega
      subst hjn
      rw [List.take_length] at hp
      have hfin := fin hp
      simp (disch := omega) [hlt, keep_cl, trunc, rents_cl, H2, FL, add1', hfin, okAll, -Int.natCast_add]
    ·have htg5 : (x.op == 5 || isBr x.op) = isBr x.op := by simp [h5]
     simp [beqF, h5, trunc, rents_cl, keep_cl]
     refine callP_of hbr ?_
     simp
     have hw := ways_ok (G := G) x i hkk (right_br h1) (by omega)
     simp [IV, In4.cs] at hw
     have htg : ∃ tg, tg = (x.op == 5 || isBr x.op) := ⟨_, rfl⟩
     obtain ⟨tg, htg⟩ := htg
     have hwl := ways_len x i
     have fin : (tg = true → ∀ w ∈ waysL x i, w < (f.length : Int)) → okAll f = okAll (f.drop (i + 1)) := by
      intro hall
      rw [hn.2, hdr, one_of h1 hrule]
      cases tg with
      | false => rw [ways_none htg.symm]; simp
      | true => rw [(ways_iff hlt htg.symm).1 (hall rfl)]; simp
     have bad' : tg = true → ∀ w ∈ waysL x i, ¬ w < (f.length : Int) → oneB x (f.length - 1 - i) = false := by
      intro ht w hm hw'
      rw [one_of h1 hrule]
      rw [ht] at htg
      rw [← Bool.not_eq_true]
      intro h; exact hw' ((ways_iff hlt htg.symm).2 h w hm)
     have loop : ∀ (w : List Int), w.length ≤ 2 → (∀ v ∈ w, v ∈ waysL x i) → True := fun _ _ _ => trivial
     generalize waysL x i = w at hw hwl fin bad' loop
     refine callP_of hw ?_
     simp
     refine W_up w.length (fun j => [(0, FL f), (4, .mp 1), (5, .int .i64 i), (9, .bool tg), (22, FL f), (23, .int .i64 f.length), (24, .int .i64 i), (55, .vs (ints .i64 w) .no), (56, .int .i64 w.length), (57, .int .i64 j)])
      (fun _ => [some (.cells [.fn 149 []]), some (.map rents), some (.cells [.int .i64 x.op, .int .i64 x.jt, .int .i64 x.jf, .int .u32 (x.k : Int)])]) (fun j => tg = true → ∀ v ∈ w.take j, v < (f.length : Int)) ?_ ?_
     ·simp [keep_cl, trunc, FL, rents_cl, htg.trans htg5]
     intro j hj hp
     by_cases hjl : j < w.length
     ·by_cases hv : tg = true ∧ ¬ w[j] < (f.length : Int)
      ·have hb := bad' hv.1 _ (List.getElem_mem hjl) hv.2
       have hv2 : ((f.length : Int) ≤ w[j]) = True := eq_true (by omega)
       simp (disch := omega) [ltT, hjl, hv.1, hv2, FL, get_in, -Int.natCast_add]
       exact bad hb i 4 (by decide)
      ·have hp' : tg = true → ∀ v ∈ w.take (j + 1), v < (f.length : Int) := by
        intro ht v hm
        rw [List.take_add_one, List.getElem?_eq_getElem hjl] at hm
        simp only [Option.toList, List.mem_append, List.mem_singleton] at hm
        rcases hm with hm | rfl
        ·exact hp ht v hm
        ·exact Int.not_le.1 fun h => hv ⟨ht, by omega⟩
       cases htt : tg with
       | false =>
        simp (disch := omega) [ltT, hjl, FL, get_in, keep_cl, trunc, rents_cl, add1', -Int.natCast_add]
       | true =>
        have hv2 : ((f.length : Int) ≤ w[j]) = False := eq_false fun h => hv ⟨htt, by omega⟩
        simp (disch := omega) [ltT, hjl, FL, get_in, hv2, keep_cl, trunc, rents_cl, add1', -Int.natCast_add]
        rw [htt] at hp'
        exact hp' rfl
     ·have hjn : j = w.length := by omega
      subst hjn
      rw [List.take_length] at hp
      have hfin := fin hp
      simp (disch := omega) [hlt, keep_cl, trunc, rents_cl, H2, FL, add1', hfin, okAll, -Int.natCast_add]
   ·have hrb : ruleB x = false := by rw [← Bool.not_eq_true]; exact fun h => h0e (hee.2 h)
    simp [bneT, h0e, trunc, rents_cl]
    exact bad (by simp [oneB, hrb]) _ _ h0e
 ·have hin : i = f.length := by omega
  subst hin
  have hlt : f.length - 1 < f.length := by omega
  have hx := FL_get hlt
  have h2 := hn.2
  rw [List.drop_length] at h2
  have hs1 := sound_of h0 (by omega) h2
  have hs2 := unsound_end h0
  generalize f[f.length - 1] = x at hx hs1 hs2
  have he := Ends_ok (G := G) x
  simp [IV, In4.cs] at he
  have hsub : subI .i64 (f.length : Int) 1 = ((f.length - 1 : Nat) : Int) := sub1' (by have : maxLen ≤ 9223372036854775807 := by decide
                                                                                       omega)
  simp [FL, hsub, hx, In4.cs]
  refine callP_of he ?_
  cases hen : isEnd x.op
  ·simp
   exact ⟨_, 5, rfl, by simp [hs2 hen]⟩
  ·simp
   exact ⟨_, 0, rfl, by simp [hs1 hen]⟩
theorem Sound_ok [HasIns G] [HasCheck G] (f : List In4) (hf : f.length ≤ maxLen) (hk : ∀ x ∈ f, x.k < 4294967296) : FP G 157 [FL f] (.bool (soundF f)) := by
 refine FP_of HasCheck.h_check_Sound (Nat.le_of_ble_eq_true rfl) ?_
 obtain ⟨v, hv, i, e, rfl, he⟩ := Check_ok (G := G) f hf hk
 simp
 refine callP_of hv ?_
 have : (e == 0) = soundF f := by rw [Bool.eq_iff_iff, beq_iff_eq]; exact he
 simp [this]
end Go.Ev
/- Which filters are sound, by hurdleref05. -/
namespace Go.Ev
open Go Go.RowKit
variable {G : Tbl}
set_option maxRecDepth 10000
set_option maxHeartbeats 2000000
set_option linter.unusedSimpArgs false
set_option linter.unusedVariables false
theorem convU64 (n : Nat) (h : n < 18446744073709551616) : convI .u64 (n : Int) = (n : Int) := by unfold convI; exact IntWalk.u64_in _ ⟨by omega, by omega⟩
theorem One_ok [HasR2 G] [HasR5o G] (x : In4) (at' n : Nat) (hx : x.k < 4294967296) (ha : at' < n) (hn : n ≤ maxLen) : ∃ v, FP G 186 [IV x, .int .i64 at', .int .i64 n] v ∧ ∃ e : Int, v = .int .i64 e ∧ (e = 0 ↔ oneB x (n - 1 - at') = true) := by
 refine FPx_of HasR5o.h_hurdleref05_One (Nat.le_of_ble_eq_true rfl) ?_
 have hr := RightR2_ok (G := G) x
 have hbr := BranchR_ok (G := G) x
 have hm : maxLen ≤ 9223372036854775807 := by decide
 have s1 : subI .i64 (n : Int) 1 = ((n - 1 : Nat) : Int) := sub1' (by omega)
 have s2 : subI .i64 ((n - 1 : Nat) : Int) (at' : Int) = ((n - 1 - at' : Nat) : Int) := by rw [subI64] <;> omega
 have hl : n - 1 - at' < 9223372036854775808 := by omega
 generalize n - 1 - at' = left at s2 hl
 obtain ⟨op, jt, jf, k⟩ := x
 have hx : k < 4294967296 := hx
 have r4 : remI (k : Int) 4 = ((k % 4 : Nat) : Int) := rem64 (b := 4)
 have h4 : (((k % 4 : Nat) : Int) = 0) = (k % 4 = 0) := propext (by omega)
 have h60 : (60 < (k : Int)) = (60 < k) := propext (by omega)
 have h15 : (15 < (k : Int)) = (15 < k) := propext (by omega)
 have h31 : (31 < (k : Int)) = (31 < k) := propext (by omega)
 have c1 : convI .u64 (k : Int) = (k : Int) := convU64 k (by omega)
 have c2 : convI .u64 (left : Int) = (left : Int) := convU64 left (by omega)
 have hle : ((left : Int) ≤ (k : Int)) = (left ≤ k) := propext (by omega)
 simp [IV, In4.cs] at hr hbr ⊢
 refine callP_of hr ?_
 cases h1 : rightI ⟨op, jt, jf, k⟩
 ·simp [oneB, h1]
 clear hr
 simp
 by_cases o32 : op = 32
 ·subst o32
  have e1 : isBr 32 = false := by decide
  rw [e1] at hbr
  by_cases hk4 : k % 4 = 0
  ·by_cases hk : 60 < k
   ·simp [r4, h4, hk4, h60, hk, beqI, -Int.natCast_emod, oneB, ruleB]
    intro _ h; omega
   ·have : k < 64 := by omega
    simp [r4, h4, hk4, h60, hk, beqI, s1, s2, -Int.natCast_emod]
    refine callP_of hbr ?_
    simp [oneB, ruleB, h1, hk4, this, e1]
  ·have h40 : (((k % 4 : Nat) : Int) != 0) = true := by simp [-Int.natCast_emod, h4, hk4]
   simp [r4, h40, hk4, h60, beqI, -Int.natCast_emod, oneB, ruleB]
 by_cases o52 : op = 52
 ·subst o52
  have e1 : isBr 52 = false := by decide
  rw [e1] at hbr
  by_cases hk4 : k = 0
  ·simp [hk4, beqI, oneB, ruleB]
  ·have : ((k : Int) = 0) = False := eq_false (by omega)
   simp [this, hk4, beqI, s1, s2]
   refine callP_of hbr ?_
   simp [oneB, ruleB, h1, hk4, e1]
 by_cases oa : op = 2 ∨ op = 3 ∨ op = 96 ∨ op = 97
 ·have e1 : isBr op = false := by rcases oa with rfl | rfl | rfl | rfl <;> decide
  have hru : ruleB ⟨op, jt, jf, k⟩ = decide (k < 16) := by rcases oa with rfl | rfl | rfl | rfl <;> rfl
  have n5 : ¬ op = 5 := by omega
  rw [e1] at hbr
  by_cases hk : 15 < k
  ·have : oneB ⟨op, jt, jf, k⟩ left = false := by simp [oneB, hru]; intro _ h; omega
   rcases oa with rfl | rfl | rfl | rfl <;> simp [h15, hk, beqI, this]
  ·have : oneB ⟨op, jt, jf, k⟩ left = true := by simp [oneB, hru, h1, e1, n5]; omega
   rcases oa with rfl | rfl | rfl | rfl <;> simp [h15, hk, beqI, s1, s2] <;> refine callP_of hbr ?_ <;> simp [this]
 by_cases ob : op = 100 ∨ op = 116
 ·have e1 : isBr op = false := by rcases ob with rfl | rfl <;> decide
  have hru : ruleB ⟨op, jt, jf, k⟩ = decide (k < 32) := by rcases ob with rfl | rfl <;> rfl
  have n5 : ¬ op = 5 := by omega
  rw [e1] at hbr
  by_cases hk : 31 < k
  ·have : oneB ⟨op, jt, jf, k⟩ left = false := by simp [oneB, hru]; intro _ h; omega
   rcases ob with rfl | rfl <;> simp [h31, hk, beqI, this]
  ·have : oneB ⟨op, jt, jf, k⟩ left = true := by simp [oneB, hru, h1, e1, n5]; omega
   rcases ob with rfl | rfl <;> simp [h31, hk, beqI, s1, s2] <;> refine callP_of hbr ?_ <;> simp [this]
 have hru : ruleB ⟨op, jt, jf, k⟩ = true := by simp [ruleB, o32, o52, oa, ob]
 by_cases o5 : op = 5
 ·subst o5
  have e1 : isBr 5 = false := by decide
  rw [e1] at hbr
  by_cases hk : left ≤ k
  ·have : oneB ⟨5, jt, jf, k⟩ left = false := by simp [oneB, hru]; intro _ h; omega
   simp [s1, s2, c1, c2, hle, hk, this]
  ·have : oneB ⟨5, jt, jf, k⟩ left = true := by simp [oneB, hru, h1, e1]; omega
   simp [s1, s2, c1, c2, hle, hk]
   refine callP_of hbr ?_
   simp [this]
 have ne : ∀ o : Int, op ≠ o → (op == o) = false := fun o h => beqF h
 have n2 := ne 2 (by omega)
 have n3 := ne 3 (by omega)
 have n96 := ne 96 (by omega)
 have n97 := ne 97 (by omega)
 have n100 := ne 100 (by omega)
 have n116 := ne 116 (by omega)
 simp [ne 32 o32, ne 52 o52, ne 5 o5, n2, n3, n96, n97, n100, n116, s1, s2]
 refine callP_of hbr ?_
 cases hb : isBr op
 ·simp [oneB, h1, hru, hb, o5]
 ·simp
  by_cases ht : (left : Int) ≤ jt
  ·have : oneB ⟨op, jt, jf, k⟩ left = false := by simp [oneB, hb]; intros; omega
   simp [ht, this]
  ·by_cases hf : (left : Int) ≤ jf
   ·have : oneB ⟨op, jt, jf, k⟩ left = false := by simp [oneB, hb]; intros; omega
    simp [ht, hf, this]
   ·have : oneB ⟨op, jt, jf, k⟩ left = true := by simp [oneB, hb, h1, hru, o5]; omega
    simp [ht, hf, this]
theorem CheckR_ok [HasR2 G] [HasR5 G] (f : List In4) (hf : f.length ≤ maxLen) (hk : ∀ x ∈ f, x.k < 4294967296) : ∃ v, FP G 187 [FL f] v ∧ Rch f v := by
 refine FPx_of HasR5.h_hurdleref05_Check (Nat.le_of_ble_eq_true rfl) ?_
 by_cases h0 : f = []
 ·subst h0
  simp [FL]
  exact ⟨0, 5, rfl, by decide⟩
 have hne : 0 < f.length := List.length_pos_iff.2 h0
 by_cases hbig : f.length > 4096
 ·have hb : ((4096 : Int) < (f.length : Int)) = True := eq_true (by omega)
  have : soundF f = false := by simp [soundF, show ¬ f.length ≤ 4096 by omega]
  simp [FL, h0, hb, beqI]
  exact ⟨0, 3, rfl, by simp [this]⟩
 have hb : ((4096 : Int) < (f.length : Int)) = False := eq_false (by omega)
 simp [FL, h0, hb, beqI]
 refine W_up f.length (fun i => [(0, FL f), (4, .int .i64 i)]) (fun _ => []) (fun i => okAll f = okAll (f.drop i)) ?_ ?_
 ·simp [keep_cl, trunc, FL]
 intro i hi hn
 by_cases hlt : i < f.length
 ·have hx := FL_get hlt
  have hg : f[i] ∈ f := List.getElem_mem hlt
  have hkk := hk _ hg
  have hdr := okAll_drop hlt
  obtain ⟨v, ho, e, rfl, he⟩ := One_ok (G := G) f[i] i f.length hkk hlt hf
  generalize f[i] = x at hx hkk hdr hg ho he
  simp [IV, In4.cs] at ho
  simp (disch := omega) [ltT, FL, hx, In4.cs, hlt, -Int.natCast_add]
  refine callP_of ho ?_
  by_cases h0e : e = 0
  ·have := he.1 h0e
   rw [this, Bool.true_and] at hdr
   have hn2 := hn.trans hdr
   simp (disch := omega) [h0e, hlt, add1', keep_cl, trunc, FL, hn2, -Int.natCast_add]
  ·have hrb : oneB x (f.length - 1 - i) = false := by rw [← Bool.not_eq_true]; exact fun h => h0e (he.2 h)
   rw [hrb] at hdr
   simp [bneT, h0e]
   exact ⟨_, _, rfl, by simp [h0e, unsound_ok (hn.trans hdr)]⟩
 ·have hin : i = f.length := by omega
  subst hin
  have hlt : f.length - 1 < f.length := by omega
  have hx := FL_get hlt
  rw [List.drop_length] at hn
  have hs1 := sound_of h0 (by omega) hn
  have hs2 := unsound_end h0
  generalize f[f.length - 1] = x at hx hs1 hs2
  have he := EndsR_ok (G := G) x
  simp [IV, In4.cs] at he
  have hsub : subI .i64 (f.length : Int) 1 = ((f.length - 1 : Nat) : Int) := sub1' (by have : maxLen ≤ 9223372036854775807 := by decide
                                                                                       omega)
  simp [FL, hsub, hx, In4.cs]
  refine callP_of he ?_
  cases hen : isEnd x.op
  ·simp
   exact ⟨_, 5, rfl, by simp [hs2 hen]⟩
  ·simp
   exact ⟨_, 0, rfl, by simp [hs1 hen]⟩
theorem SoundR_ok [HasR2 G] [HasR5 G] (f : List In4) (hf : f.length ≤ maxLen) (hk : ∀ x ∈ f, x.k < 4294967296) : FP G 188 [FL f] (.bool (soundF f)) := by
 refine FP_of HasR5.h_hurdleref05_Sound (Nat.le_of_ble_eq_true rfl) ?_
 obtain ⟨v, hv, i, e, rfl, he⟩ := CheckR_ok (G := G) f hf hk
 simp
 refine callP_of hv ?_
 have : (e == 0) = soundF f := by rw [Bool.eq_iff_iff, beq_iff_eq]; exact he
 simp [this]
end Go.Ev
/- Which instructions are a window: window.Right, hurdleref17.Right; and hurdleref03.Same. -/
namespace Go.Ev
open Go Go.RowKit
variable {G : Tbl}
set_option maxRecDepth 10000
set_option maxHeartbeats 2000000
set_option linter.unusedSimpArgs false
set_option linter.unusedVariables false
def goesOn (x : In4) : Bool := !(x.op == 5) && !isBr x.op && !isEnd x.op
def plainW (x : In4) : Bool := goesOn x && rightI x && ruleB x
def winB (w : List In4) : Bool := decide (w.length ≤ 32) && w.all plainW
def RET : In4 := ⟨22, 0, 0, 0⟩
theorem goesOn_not {x : In4} (h : goesOn x = true) : x.op ≠ 5 ∧ isBr x.op = false ∧ isEnd x.op = false := by
 simp only [goesOn, Bool.and_eq_true, Bool.not_eq_true', beq_eq_false_iff_ne] at h
 exact ⟨h.1.1, h.1.2, h.2⟩
theorem one_plain {x : In4} (h : goesOn x = true) (left : Nat) : oneB x left = (rightI x && ruleB x) := by
 obtain ⟨h1, h2, h3⟩ := goesOn_not h
 simp [oneB, h1, h2]
theorem okAll_win : ∀ {w : List In4} (z : In4), (∀ x ∈ w, goesOn x = true) → okAll (w ++ [z]) = ((w.all fun x => rightI x && ruleB x) && oneB z 0)
 | [], z, _ => by simp [okAll]
 | x :: w, z, h => by
  rw [List.cons_append, okAll, okAll_win z fun y hy => h y (by simp [hy]), one_plain (h x (by simp))]
  simp [Bool.and_assoc]
theorem sound_win {w : List In4} (h : ∀ x ∈ w, goesOn x = true) (hl : w.length ≤ 32) : soundF (w ++ [RET]) = w.all plainW := by
 have h1 : endB (w ++ [RET]) = true := by simp [endB]; decide
 have h2 : oneB RET 0 = true := by decide
 have h3 : (w ++ [RET]).length ≤ 4096 := by simp; omega
 simp only [soundF, okAll_win RET h, h1, h2, h3, Bool.and_true, decide_true, Bool.true_and]
 rw [Bool.eq_iff_iff, List.all_eq_true, List.all_eq_true]
 constructor
 ·intro h' x hx
  simp only [plainW, h x hx, Bool.true_and]; exact h' x hx
 ·intro h' x hx
  have := h' x hx
  simpa only [plainW, h x hx, Bool.true_and] using this
theorem WRight_ok [HasIns G] [HasCheck G] [HasWRight G] (w : List In4) (hf : w.length ≤ maxLen) (hk : ∀ x ∈ w, x.k < 4294967296) : FP G 202 [FL w] (.bool (winB w)) := by
 refine FP_of HasWRight.h_window_Right (Nat.le_of_ble_eq_true rfl) ?_
 by_cases hb : w.length > 32
 ·have h1 : ((32 : Int) < (w.length : Int)) = True := eq_true (by omega)
  simp [FL, h1, winB, show ¬ w.length ≤ 32 by omega]
 have h1 : ((32 : Int) < (w.length : Int)) = False := eq_false (by omega)
 have hle : w.length ≤ 32 := by omega
 simp [FL, h1]
 refine W_up w.length (fun i => [(0, FL w), (8, FL w), (9, .int .i64 w.length), (10, .int .i64 i)]) (fun _ => []) (fun i => ∀ x ∈ w.take i, goesOn x = true) ?_ ?_
 ·simp [keep_cl, trunc, FL]
 intro i hi hp
 by_cases hlt : i < w.length
 ·obtain ⟨x, hfx⟩ : ∃ x, x = w[i] := ⟨_, rfl⟩
  have hgg := FL_get hlt
  rw [← hfx] at hgg
  have hfx := hfx.symm
  have hxm : x ∈ w := hfx ▸ List.getElem_mem hlt
  have hbr := Branch_ok (G := G) x
  have hen := Ends_ok (G := G) x
  have hcs : x.cs = [.int .i64 x.op, .int .i64 x.jt, .int .i64 x.jf, .int .u32 (x.k : Int)] := rfl
  simp [IV, hcs] at hbr hen
  have bad : goesOn x = false → winB w = false := by
   intro h
   have : w.all plainW = false := by
    rw [← Bool.not_eq_true, List.all_eq_true]
    intro h2
    have := h2 x hxm
    simp only [plainW, h, Bool.false_and, Bool.false_eq_true] at this
   simp [winB, this]
  by_cases h5 : x.op = 5
  ·have b5 : (x.op == 5) = true := by simp [h5]
   simp (disch := omega) [ltT, FL, hgg, hfx, hcs, b5, bad (by simp [goesOn, h5])]
  have b5 : (x.op == 5) = false := beqF h5
  simp (disch := omega) [ltT, FL, hgg, hfx, hcs, b5]
  refine callP_of hbr ?_
  cases hb : isBr x.op
  ·simp
   refine callP_of hen ?_
   cases he : isEnd x.op
   ·have hp' : ∀ y ∈ w.take (i + 1), goesOn y = true := by
     intro y hy
     rw [List.take_add_one, List.getElem?_eq_getElem hlt, hfx] at hy
     simp only [Option.toList, List.mem_append, List.mem_singleton] at hy
     rcases hy with hy | rfl
     ·exact hp y hy
     ·simp [goesOn, h5, hb, he]
    simp (disch := omega) [hlt, add1', keep_cl, trunc, FL, -Int.natCast_add]
    exact hp'
   ·simp [bad (by simp [goesOn, he])]
  ·simp [bad (by simp [goesOn, hb])]
 ·have hne : i = w.length := by omega
  subst hne
  rw [List.take_length] at hp
  have hs := Sound_ok (G := G) (w ++ [RET]) (by rw [List.length_append]; have : maxLen = 9223372036854775807 := by decide
                                                simp; omega) (fun x hx => by
   rcases List.mem_append.1 hx with h | h
   ·exact hk x h
   ·simp only [List.mem_singleton] at h; subst h; decide)
  rw [sound_win hp hle] at hs
  have hw : w.all plainW = winB w := by simp [winB, hle]
  rw [hw] at hs
  have hret : IL w ++ [[V.int .i64 22, .int .i64 0, .int .i64 0, .int .u32 0]] = IL (w ++ [RET]) := IL_snoc w RET
  have hret0 : [[V.int .i64 22, .int .i64 0, .int .i64 0, .int .u32 0]] = IL ([] ++ [RET]) := rfl
  simp only [FL] at hs
  by_cases hw0 : w = []
  ·subst hw0
   simp only [List.nil_append, ← hret0] at hs
   simp [FL]
   refine callP_of hs ?_
   simp
  ·simp (disch := omega) [FL, IL_eq_nil, hw0, leTn, hret]
   refine callP_of hs ?_
   simp
theorem Right17_ok [HasR2 G] [HasR5o G] [HasR17 G] (w : List In4) (hf : w.length ≤ 1000000) (hk : ∀ x ∈ w, x.k < 4294967296) : FP G 203 [FL w] (.bool (winB w)) := by
 refine FP_of HasR17.h_hurdleref17_Right (Nat.le_of_ble_eq_true rfl) ?_
 simp
 refine W_up w.length (fun i => [(0, FL w), (3, .int .i64 i)]) (fun _ => []) (fun i => (w.take i).all plainW = true) ?_ ?_
 ·simp [keep_cl, trunc, FL]
 intro i hi hp
 by_cases hlt : i < w.length
 ·obtain ⟨x, hfx⟩ : ∃ x, x = w[i] := ⟨_, rfl⟩
  have hgg := FL_get hlt
  rw [← hfx] at hgg
  have hfx := hfx.symm
  have hxm : x ∈ w := hfx ▸ List.getElem_mem hlt
  have hbr := BranchR_ok (G := G) x
  have hen := EndsR_ok (G := G) x
  obtain ⟨v, hon, e, rfl, he0⟩ := One_ok (G := G) x 0 2 (hk x hxm) (by decide) (by decide)
  have hcs : x.cs = [.int .i64 x.op, .int .i64 x.jt, .int .i64 x.jf, .int .u32 (x.k : Int)] := rfl
  simp [IV, hcs] at hbr hen hon
  have bad : plainW x = false → winB w = false := by
   intro h
   have : w.all plainW = false := by
    rw [← Bool.not_eq_true, List.all_eq_true]
    intro h2
    have := h2 x hxm
    rw [h] at this; cases this
   simp [winB, this]
  by_cases h5 : x.op = 5
  ·have b5 : (x.op == 5) = true := by simp [h5]
   simp (disch := omega) [ltT, FL, hgg, hfx, hcs, b5, bad (by simp [plainW, goesOn, h5])]
  have b5 : (x.op == 5) = false := beqF h5
  simp (disch := omega) [ltT, FL, hgg, hfx, hcs, b5]
  refine callP_of hbr ?_
  cases hb : isBr x.op
  ·simp (disch := omega) [ltT, FL, hgg, hfx, hcs]
   refine callP_of hen ?_
   cases he : isEnd x.op
   ·simp (disch := omega) [ltT, FL, hgg, hfx, hcs]
    refine callP_of hon ?_
    have hgo : goesOn x = true := by simp [goesOn, h5, hb, he]
    rw [one_plain hgo] at he0
    by_cases hez : e = 0
    ·have hpl : plainW x = true := by simp only [plainW, hgo, Bool.true_and]; exact he0.1 hez
     have hp' : (w.take (i + 1)).all plainW = true := by
      rw [List.take_add_one, List.getElem?_eq_getElem hlt, hfx, List.all_append, hp]
      simp [hpl]
     simp (disch := omega) [hez, hlt, add1', keep_cl, trunc, FL, -Int.natCast_add]
     simpa using hp'
    ·have hpl : plainW x = false := by
      rw [← Bool.not_eq_true]; intro h
      simp only [plainW, hgo, Bool.true_and] at h
      exact hez (he0.2 h)
     simp [bneT hez, bad hpl]
   ·simp [bad (by simp [plainW, goesOn, he])]
  ·simp [bad (by simp [plainW, goesOn, hb])]
 ·have hne : i = w.length := by omega
  subst hne
  rw [List.take_length] at hp
  by_cases hl : w.length ≤ 32
  ·simp [FL, winB, hp, hl, leT, show ((w.length : Int) ≤ 32) = True from eq_true (by omega)]
  ·simp [FL, winB, hp, hl, show ((w.length : Int) ≤ 32) = False from eq_false (by omega)]
@[simp] theorem cs_take4 (x : In4) : x.cs.take 4 = x.cs := rfl
theorem IL_drop (f : List In4) (n : Nat) : (IL f).drop n = IL (f.drop n) := by simp [IL]
theorem IL_take (f : List In4) (n : Nat) : (IL f).take n = IL (f.take n) := by simp [IL]
end Go.Ev
