/- Arithmetic in a book. -/
import Derived.Test.YtdomogpjchpbnaaSymA2W
namespace Go.Ev
open Go Go.RowKit
variable {G : Tbl}
set_option maxRecDepth 10000
set_option maxHeartbeats 4000000
set_option linter.unusedSimpArgs false
set_option linter.unusedVariables false
variable {H : Heap} {b z m : Nat} {L : List Nd}

theorem HShut.app2 {H : Heap} (h : HShut H) {r : Heap} (hr : ∀ n, (H ++ r).length ≤ n → r.map (Option.map (Blk.cl n)) = r) : HShut (H ++ r) := by
  intro m hm
  rw [List.map_append, hr m hm, h m (by rw [List.length_append] at hm; omega)]
theorem Bk.app2 (h : Bk H b z m L) {r : Heap} (hr : ∀ n, (H ++ r).length ≤ n → r.map (Option.map (Blk.cl n)) = r) : Bk (H ++ r) b z m L :=
  ⟨by rw [List.getElem?_append_left h.lb]; exact h.hb, by rw [List.getElem?_append_left h.lz]; exact h.hz, by rw [List.getElem?_append_left h.lm]; exact h.hm, h.shut.app2 hr, h.ok, h.small⟩
/-- A book in memory that was changed. -/
theorem Bk.to (h : Bk H b z m L) {L' : List Nd} (hi : Inv L') (hs : L'.length ≤ 1000000) : Bk (upd H b z m L') b z m L' := h.upd_bk hi.ok hs
theorem upd_other (h : Bk H b z m L) {L' : List Nd} {p : Nat} {c : List V} (hp : H[p]? = some (some (.cells c))) (hb : p ≠ b) : (upd H b z m L')[p]? = some (some (.cells c)) := by
  unfold upd
  have h1 : m ≠ p := fun e => by subst e; rw [h.hm] at hp; simp at hp
  have h2 : z ≠ p := fun e => by subst e; rw [h.hz] at hp; simp at hp
  rw [List.getElem?_set_ne h1, List.getElem?_set_ne h2, List.getElem?_set_ne (Ne.symm hb)]
  exact hp

def swapsB (kind : Int) : Bool := decide (kind ≠ 20 ∧ kind ≠ 52 ∧ kind ≠ 100 ∧ kind ≠ 116)
def deedNd (kind : Int) (x y : Nat) : Nd := { Nd0 with kind := 2, op := kind, x := x, y := y }
noncomputable def bAlu2 (L : List Nd) (kind : Int) (x y : Nat) (a c : Nd) : Int × List Nd :=
  let s1 := sumsN L kind a c
  let s2 := bothN s1.2.2 kind a c
  let s3 := plainN kind (constA c) x y
  let s4 := plainN kind (constA a) y x
  if s1.2.1 = true then (s1.1, s1.2.2) else if s2.2.1 = true then (s2.1, s2.2.2) else if s3.2 = true then (s3.1, s1.2.2)
  else if swapsB kind = true ∧ s4.2 = true then (s4.1, s1.2.2)
  else if swapsB kind = true ∧ y < x then putN s1.2.2 (deedNd kind y x) else putN s1.2.2 (deedNd kind x y)
noncomputable def bAlu (L : List Nd) (kind x y : Int) : Int × List Nd :=
  if (doW kind 0 1).2 = true ∧ hasI L x = true ∧ hasI L y = true then (match L[x.toNat]?, L[y.toNat]? with | some a, some c => bAlu2 L kind x.toNat y.toNat a c | _, _ => (-1, L)) else (-1, L)
theorem bothN_L (L : List Nd) (kind : Int) (a c : Nd) (h : (bothN L kind a c).2.1 = false) : (bothN L kind a c).2.2 = L := by
  cases e1 : asB a with
  | none => simp [bothN, e1, noR]
  | some p =>
    cases e2 : asB c with
    | none => simp [bothN, e1, e2, noR]
    | some q =>
      cases e3 : bdo kind p q with
      | none => simp [bothN, e1, e2, e3, noR]
      | some r => simp [bothN, e1, e2, e3, okP] at h

section
variable {K : Heap} {kind : Int} {x y p0 p1 p2 p3 p4 : Nat} {a c : Nd}
theorem Alu1_ok [HasWd G] [HasAffine G] [HasSym G] (h : Bk K b z m L) (hs : L.length < 1000000) (hx : L[x]? = some a) (hy : L[y]? = some c) (ha : a.wf) (hc : c.wf)
    (h0 : K[p0]? = some (some (.cells [.ptr b 0]))) (h1 : K[p1]? = some (some (.cells [.int .i64 kind]))) (h2 : K[p2]? = some (some (.cells [.int .i64 x]))) (h3 : K[p3]? = some (some (.cells [.int .i64 y]))) :
    SF G 270 [.ptr p0 0, .ptr p1 0, .ptr p2 0, .ptr p3 0] K (.tup [.int .i64 (sumsN L kind a c).1, .bool (sumsN L kind a c).2.1]) (upd K b z m (sumsN L kind a c).2.2) := by
  refine SF_of HasSym.h_sym_Book_Alu_1 (Nat.le_of_ble_eq_true rfl) ?_
  have hbk := h.back (sumsN L kind a c).2.2 []
  simp at hbk
  simp [h0, h1, h2, h3]
  refine callSF_of (sums_ok kind x y a c h hs hx hy ha hc) ?_
  simp [hbk]
theorem Alu2_ok [HasAffine G] [HasBits G] [HasSym G] (h : Bk K b z m L) (hs : L.length < 1000000) (hx : L[x]? = some a) (hy : L[y]? = some c) (ha : a.wf) (hc : c.wf)
    (h0 : K[p0]? = some (some (.cells [.ptr b 0]))) (h1 : K[p1]? = some (some (.cells [.int .i64 kind]))) (h2 : K[p2]? = some (some (.cells [.int .i64 x]))) (h3 : K[p3]? = some (some (.cells [.int .i64 y]))) :
    SF G 271 [.ptr p0 0, .ptr p1 0, .ptr p2 0, .ptr p3 0] K (.tup [.int .i64 (bothN L kind a c).1, .bool (bothN L kind a c).2.1]) (upd K b z m (bothN L kind a c).2.2) := by
  refine SF_of HasSym.h_sym_Book_Alu_2 (Nat.le_of_ble_eq_true rfl) ?_
  have hbk := h.back (bothN L kind a c).2.2 []
  simp at hbk
  simp [h0, h1, h2, h3]
  refine callSF_of (Bboth_ok kind x y a c h hs hx hy ha hc) ?_
  simp [hbk]
theorem Alu3_ok [HasAffine G] [HasSym G] (h : Bk K b z m L)
    (h0 : K[p0]? = some (some (.cells [.ptr b 0]))) (h1 : K[p1]? = some (some (.cells [.int .i64 kind]))) (h2 : K[p2]? = some (some (.cells [.int .i64 x]))) (h3 : K[p3]? = some (some (.cells [.int .i64 y]))) :
    SF G 272 [.ptr p0 0, .ptr p1 0, .ptr p2 0, .ptr p3 0] K (.tup [.int .i64 (plainN kind (constI L y) x y).1, .bool (plainN kind (constI L y) x y).2]) K := by
  refine SF_of HasSym.h_sym_Book_Alu_3 (Nat.le_of_ble_eq_true rfl) ?_
  have hbk := h.shut.self
  simp [h0, h1, h2, h3]
  refine callSF_of (plain_ok' kind x y h) ?_
  simp [hbk]
theorem Alu4_ok [HasAffine G] [HasSym G] (sw : Bool) (h : Bk K b z m L) (h4 : K[p4]? = some (some (.cells [.bool sw])))
    (h0 : K[p0]? = some (some (.cells [.ptr b 0]))) (h1 : K[p1]? = some (some (.cells [.int .i64 kind]))) (h2 : K[p2]? = some (some (.cells [.int .i64 x]))) (h3 : K[p3]? = some (some (.cells [.int .i64 y]))) :
    SF G 273 [.ptr p4 0, .ptr p0 0, .ptr p1 0, .ptr p3 0, .ptr p2 0] K (.tup [.int .i64 (if sw = true then (plainN kind (constI L x) y x).1 else 0), .bool (sw && (plainN kind (constI L x) y x).2)]) K := by
  refine SF_of HasSym.h_sym_Book_Alu_4 (Nat.le_of_ble_eq_true rfl) ?_
  have hbk := h.shut.self
  cases sw
  · simp [h0, h1, h2, h3, h4, hbk]
  · simp [h0, h1, h2, h3, h4]
    refine callSF_of (plain_ok' kind y x h) ?_
    simp [hbk]
end
theorem sums_ext {kind : Int} {a c : Nd} (h : Inv L) (ha : a.ok) (hc : c.ok) (haw : a.wf) (hcw : c.wf) : Ext L (sumsN L kind a c).2.2 1 := by
  have no : Ext L (noR L).2.2 1 := .refl h 1
  have yes : ∀ f : List Nat, f.length = 35 → (∀ x ∈ f, x < 4294967296) → Ext L (okP (putN L (sumNd f))).2.2 1 := fun f hf hw => (put_ext h (sum_good hf hw _)).1
  rw [sumsN]
  split
  · split
    · exact yes _ (fAdd_len ha.1 hc.1) (fAdd_lt _ _)
    · split
      · exact yes _ (fSub_len ha.1 hc.1) (fSub_lt _ _)
      · split
        · rename_i u v eu ev
          split
          · exact yes _ (fMul_len _ ha.1) (fMul_lt _ _)
          · split
            · exact yes _ (fMul_len _ ha.1) (fMul_lt _ _)
            · exact (put_ext h (sum_good (by simp) (const_lt (doW32 kind (fConst_lt eu haw.1) (fConst_lt ev hcw.1))) _)).1
        · split
          · exact yes _ (fMul_len _ ha.1) (fMul_lt _ _)
          · split
            · exact yes _ (fMul_len _ ha.1) (fMul_lt _ _)
            · exact no
        · split
          · exact yes _ (fMul_len _ hc.1) (fMul_lt _ _)
          · exact no
        · exact no
  · exact no
theorem constI_at {y : Nat} {c : Nd} (hy : L[y]? = some c) : constI L y = constA c := by
  have hl := (List.getElem?_eq_some_iff.1 hy).1
  have hh : hasI L y = true := by simp [hasI]; exact hl
  simp [constI, hh, hy]
theorem callVSF_of {f : Nat} {cap args : List V} {r : V} {H' : Heap} {base : Nat} {d : Option Nat} {os : List SOper} {K : List Kt} {e : Env} {Q : Ex → Env → Heap → Prop} (h : SF G f (args ++ cap) H r H')
    (hr : WO G base os K (e.put d r) H' Q) : callV G false (.fn f cap) args base d os K e H Q := by
  obtain ⟨r1, H1, hb, hr1, ht⟩ := h
  refine callV_of hb (by simp) ?_
  rw [hr1, ht]
  exact hr
theorem BAlu_ok [HasWd G] [HasAffine G] [HasBits G] [HasSym G] (kind x y : Int) (h : Bk H b z m L) (hi : Inv L) (hs : L.length < 999990) : BF G 274 [.int .i64 kind, .int .i64 x, .int .i64 y] H b z m (bAlu L kind x y) := by
  refine SF_of HasSym.h_sym_Book_Alu (Nat.le_of_ble_eq_true rfl) ?_
  obtain ⟨B0, hB0⟩ : ∃ B0 : Heap, B0 = [some (.cells [.ptr b 0]), some (.cells [.int .i64 kind]), some (.cells [.int .i64 x]), some (.cells [.int .i64 y])] := ⟨_, rfl⟩
  have hbl : ∀ n, H.length ≤ n → b < n := fun n hn => by have := h.lb; omega
  have h1 : Bk (H ++ [some (.cells [.ptr b 0]), some (.cells [.int .i64 kind]), some (.cells [.int .i64 x]), some (.cells [.int .i64 y])]) b z m L := h.app2 fun n hn => by simp [Blk.cl, clL, V.cl]; exact hbl n (by simp at hn; omega)
  have hs1 := h1.shut.self
  have hsh := h.shut.back
  have hus := h.upd_self
  simp at hs1
  have hdo := doW_ok (G := G) (by infer_instance) kind 0 1 (by decide) (by decide)
  simp at hdo
  have hno : ∀ p : Prop, bAlu L kind x y = (-1, L) → p → (bAlu L kind x y).1 = -1 ∧ upd H b z m (bAlu L kind x y).2 = H := fun p e _ => by rw [e]; exact ⟨rfl, hus⟩
  simp [ap0, apk]
  refine callP_of hdo ?_
  simp [ap0, apk]
  cases hok : (doW kind 0 1).2 with
  | false =>
    have hR : bAlu L kind x y = (-1, L) := by rw [bAlu, if_neg (by simp [hok])]
    simp [hR, hus, hsh, ap0, apk]
  | true =>
    simp [ap0, apk]
    refine callSF_of (hasF_ok x h1) ?_
    cases hx : hasI L x with
    | false =>
      have hR : bAlu L kind x y = (-1, L) := by rw [bAlu, if_neg (by simp [hx])]
      simp [hR, hus, hsh, ap0, apk]
    | true =>
      simp [ap0, apk]
      refine callSF_of (hasF_ok y h1) ?_
      cases hy : hasI L y with
      | false =>
        have hR : bAlu L kind x y = (-1, L) := by rw [bAlu, if_neg (by simp [hy])]
        simp [hR, hus, hsh, ap0, apk]
      | true =>
        obtain ⟨hx0, hx1⟩ : 0 ≤ x ∧ x < L.length := by simpa [hasI] using hx
        obtain ⟨hy0, hy1⟩ : 0 ≤ y ∧ y < L.length := by simpa [hasI] using hy
        obtain ⟨xn, rfl⟩ := Int.eq_ofNat_of_zero_le hx0
        obtain ⟨yn, rfl⟩ := Int.eq_ofNat_of_zero_le hy0
        obtain ⟨a, ha⟩ : ∃ a, L[xn]? = some a := ⟨_, get_in (by omega)⟩
        obtain ⟨c, hc⟩ : ∃ c, L[yn]? = some c := ⟨_, get_in (by omega)⟩
        have hR : bAlu L kind xn yn = bAlu2 L kind xn yn a c := by rw [bAlu, if_pos ⟨hok, hx, hy⟩]; simp [ha, hc]
        rw [hR]
        obtain ⟨sw, hsw⟩ : ∃ sw, sw = swapsB kind := ⟨_, rfl⟩
        have h2 : Bk (H ++ [some (.cells [.ptr b 0]), some (.cells [.int .i64 kind]), some (.cells [.int .i64 xn]), some (.cells [.int .i64 yn]), some (.cells [.bool sw])]) b z m L := h.app2 fun n hn => by simp [Blk.cl, clL, V.cl]; exact hbl n (by simp at hn; omega)
        obtain ⟨C, hC⟩ : ∃ C : List V, C = [.fn 270 [.ptr H.length 0, .ptr (H.length + 1) 0, .ptr (H.length + 2) 0, .ptr (H.length + 3) 0], .fn 271 [.ptr H.length 0, .ptr (H.length + 1) 0, .ptr (H.length + 2) 0, .ptr (H.length + 3) 0],
          .fn 272 [.ptr H.length 0, .ptr (H.length + 1) 0, .ptr (H.length + 2) 0, .ptr (H.length + 3) 0], .fn 273 [.ptr (H.length + 4) 0, .ptr H.length 0, .ptr (H.length + 1) 0, .ptr (H.length + 3) 0, .ptr (H.length + 2) 0]] := ⟨_, rfl⟩
        have hs2 := h2.shut.self
        simp at hs2
        have c5 : kind = 20 ∧ sw = false ∨ kind = 52 ∧ sw = false ∨ kind = 100 ∧ sw = false ∨ kind = 116 ∧ sw = false ∨ (kind ≠ 20 ∧ kind ≠ 52 ∧ kind ≠ 100 ∧ kind ≠ 116) ∧ sw = true := by
          by_cases a1 : kind = 20
          · simp [a1, hsw, swapsB]
          by_cases a2 : kind = 52
          · simp [a2, hsw, swapsB]
          by_cases a3 : kind = 100
          · simp [a3, hsw, swapsB]
          by_cases a4 : kind = 116
          · simp [a4, hsw, swapsB]
          simp [a1, a2, a3, a4, hsw, swapsB]
        have n20 : kind ≠ 20 → (kind != 20) = true := fun h => bneT h
        have n52 : kind ≠ 52 → (kind != 52) = true := fun h => bneT h
        have n100 : kind ≠ 100 → (kind != 100) = true := fun h => bneT h
        have n116 : kind ≠ 116 → (kind != 116) = true := fun h => bneT h
        have hcC : ∀ n, H.length + 6 ≤ n → clL n C = C := fun n hn => by
          rw [hC]
          simp [clL, V.cl, show H.length < n by omega, show H.length + 1 < n by omega, show H.length + 2 < n by omega, show H.length + 3 < n by omega, show H.length + 4 < n by omega]
        have h3 : Bk (H ++ [some (.cells [.ptr b 0]), some (.cells [.int .i64 kind]), some (.cells [.int .i64 xn]), some (.cells [.int .i64 yn]), some (.cells [.bool sw]), some (.cells C)]) b z m L := h.app2 fun n hn => by simp at hn; simp [Blk.cl, clL, V.cl, hcC n (by omega)]; exact hbl n (by omega)
        obtain ⟨BB, hBB⟩ : ∃ BB : List Nd → Heap, ∀ L', BB L' = upd H b z m L' ++ [some (.cells [.ptr b 0]), some (.cells [.int .i64 kind]), some (.cells [.int .i64 xn]), some (.cells [.int .i64 yn]), some (.cells [.bool sw]), some (.cells C)] := ⟨_, fun _ => rfl⟩
        have bL : BB L = H ++ [some (.cells [.ptr b 0]), some (.cells [.int .i64 kind]), some (.cells [.int .i64 xn]), some (.cells [.int .i64 yn]), some (.cells [.bool sw]), some (.cells C)] := by rw [hBB, hus]
        have bU : ∀ L' : List Nd, BB L' = upd (H ++ [some (.cells [.ptr b 0]), some (.cells [.int .i64 kind]), some (.cells [.int .i64 xn]), some (.cells [.int .i64 yn]), some (.cells [.bool sw]), some (.cells C)]) b z m L' := fun L' => by rw [h.upd_app, hBB]
        have bB : ∀ L' : List Nd, Inv L' → L'.length ≤ 1000000 → Bk (BB L') b z m L' := fun L' hi' hs' => by rw [bU]; exact h3.to hi' hs'
        have bUU : ∀ L1 L2 : List Nd, upd (BB L1) b z m L2 = BB L2 := fun L1 L2 => by rw [bU, bU, h3.upd_upd]
        have bl : ∀ L' : List Nd, (BB L').length = H.length + 6 := fun L' => by rw [hBB]; simp [upd_len]
        have g0 : ∀ (L' : List Nd) (r : Heap), (upd H b z m L' ++ r)[H.length]? = r[0]? := fun L' r => by rw [← upd_len H b z m L', ap0]
        have gk : ∀ (L' : List Nd) (r : Heap) (k : Nat), (upd H b z m L' ++ r)[H.length + k]? = r[k]? := fun L' r k => by
          have := apk (upd H b z m L') r k
          rwa [upd_len] at this
        have sk : ∀ (L' : List Nd) (r : Heap) (k : Nat) (x : Option Blk), (upd H b z m L' ++ r).set (H.length + k) x = upd H b z m L' ++ r.set k x := fun L' r k x => by
          have := setk (upd H b z m L') r k x
          rwa [upd_len] at this
        have q0 : ∀ L', (BB L')[H.length]? = some (some (.cells [.ptr b 0])) := fun L' => by rw [hBB, g0]; rfl
        have q1 : ∀ L', (BB L')[H.length + 1]? = some (some (.cells [.int .i64 kind])) := fun L' => by rw [hBB, gk]; rfl
        have q2 : ∀ L', (BB L')[H.length + 2]? = some (some (.cells [.int .i64 xn])) := fun L' => by rw [hBB, gk]; rfl
        have q3 : ∀ L', (BB L')[H.length + 3]? = some (some (.cells [.int .i64 yn])) := fun L' => by rw [hBB, gk]; rfl
        have q4 : ∀ L', (BB L')[H.length + 4]? = some (some (.cells [.bool sw])) := fun L' => by rw [hBB, gk]; rfl
        have q5 : ∀ L', (BB L')[H.length + 5]? = some (some (.cells C)) := fun L' => by rw [hBB, gk]; rfl
        have hao := hi.good xn a ha
        have hco := hi.good yn c hc
        have e1 := sums_ext (kind := kind) hi hao.1 hco.1 hao.2.1 hco.2.1
        obtain ⟨L1, hL1⟩ : ∃ L1, L1 = (sumsN L kind a c).2.2 := ⟨_, rfl⟩
        rw [← hL1] at e1
        have l1 := e1.len
        have k0 := bB L hi (by omega)
        have k1 := bB L1 e1.inv (by omega)
        have ha1 := e1.get ha
        have hc1 := e1.get hc
        have cx := constI_at ha1
        have cy := constI_at hc1
        have tr : ∀ (L' : List Nd), Inv L' → L'.length ≤ 1000000 → ∀ r, trunc (H.length + 6) (BB L' ++ r) = BB L' := fun L' hi' hs' r => by
          have := (bB L' hi' hs').shut.back r
          rwa [bl] at this
        have tr0 := tr L hi (by omega)
        have tr1 := tr L1 e1.inv (by omega)
        have ts0 : trunc (H.length + 6) (BB L) = BB L := by simpa using tr0 []
        have ts1 : trunc (H.length + 6) (BB L1) = BB L1 := by simpa using tr1 []
        have fin : ∀ L' r, trunc H.length (BB L' ++ r) = upd H b z m L' := fun L' r => by rw [hBB, List.append_assoc]; exact h.back L' _
        have fin0 : ∀ L', trunc H.length (BB L') = upd H b z m L' := fun L' => by simpa using fin L' []
        obtain ⟨Ls, hLs0, hLs⟩ : ∃ Ls : Nat → List Nd, Ls 0 = L ∧ ∀ i, Ls (i + 1) = L1 := ⟨fun i => match i with | 0 => L | _ + 1 => L1, rfl, fun _ => rfl⟩
        have C0 : C.take 1 = [.fn 270 [.ptr H.length 0, .ptr (H.length + 1) 0, .ptr (H.length + 2) 0, .ptr (H.length + 3) 0]] := by rw [hC]; rfl
        have C1 : C.tail.take 1 = [.fn 271 [.ptr H.length 0, .ptr (H.length + 1) 0, .ptr (H.length + 2) 0, .ptr (H.length + 3) 0]] := by rw [hC]; rfl
        have C2 : (C.drop 2).take 1 = [.fn 272 [.ptr H.length 0, .ptr (H.length + 1) 0, .ptr (H.length + 2) 0, .ptr (H.length + 3) 0]] := by rw [hC]; rfl
        have C3 : (C.drop 3).take 1 = [.fn 273 [.ptr (H.length + 4) 0, .ptr H.length 0, .ptr (H.length + 1) 0, .ptr (H.length + 3) 0, .ptr (H.length + 2) 0]] := by rw [hC]; rfl
        have lC : C.length = 4 := by rw [hC]; rfl
        have A1 := Alu1_ok (G := G) (kind := kind) k0 (by omega) ha hc hao.2.1 hco.2.1 (q0 L) (q1 L) (q2 L) (q3 L)
        have A2 := Alu2_ok (G := G) (kind := kind) k1 (by omega) ha1 hc1 hao.2.1 hco.2.1 (q0 L1) (q1 L1) (q2 L1) (q3 L1)
        have A3 := Alu3_ok (G := G) (kind := kind) k1 (q0 L1) (q1 L1) (q2 L1) (q3 L1)
        have A4 := Alu4_ok (G := G) (kind := kind) sw k1 (q4 L1) (q0 L1) (q1 L1) (q2 L1) (q3 L1)
        rw [← hL1, bUU] at A1
        rw [bUU] at A2
        rw [cy] at A3
        rw [cx] at A4
        have hLs1 : Ls 1 = L1 := hLs 0
        have hLs2 : Ls 2 = L1 := hLs 1
        have hLs3 : Ls 3 = L1 := hLs 2
        have hLs4 : Ls 4 = L1 := hLs 3
        have a01 : addI .i64 0 1 = 1 := rfl
        have a11 : addI .i64 1 1 = 2 := rfl
        have a21 : addI .i64 2 1 = 3 := rfl
        have a31 : addI .i64 3 1 = 4 := rfl
        have hfill : ∀ (u w : Nat) (r : List (Nat × V)), fillC (mkE ((80, .int .i64 w) :: (79, .int .i64 u) :: (78, .int .i64 kind) :: r)) Nd0.cs [(0, 1, .c (.int .i64 2)), (57, 1, .t 78), (58, 1, .t 79), (59, 1, .t 80)] = some (deedNd kind u w).cs := fun _ _ _ => rfl
        have hd := h.to e1.inv (by omega)
        have done : ∀ u w : Nat, bAlu2 L kind xn yn a c = putN L1 (deedNd kind u w) →
            SF G 259 [.ptr b 0, .agg (deedNd kind u w).cs] (upd H b z m L1 ++ [some (.cells [.ptr b 0]), some (.cells [.int .i64 kind]), some (.cells [.int .i64 u]), some (.cells [.int .i64 w]), some (.cells [.bool sw]), some (.cells C)]) (.int .i64 (bAlu2 L kind xn yn a c).1)
              (upd H b z m (bAlu2 L kind xn yn a c).2 ++ [some (.cells [.ptr b 0]), some (.cells [.int .i64 kind]), some (.cells [.int .i64 u]), some (.cells [.int .i64 w]), some (.cells [.bool sw]), some (.cells C)]) := fun u w hF => by
          have hb6 : Bk (upd H b z m L1 ++ [some (.cells [.ptr b 0]), some (.cells [.int .i64 kind]), some (.cells [.int .i64 u]), some (.cells [.int .i64 w]), some (.cells [.bool sw]), some (.cells C)]) b z m L1 :=
            hd.app2 fun n hn => by simp [upd_len] at hn; simp [Blk.cl, clL, V.cl, hcC n (by omega)]; exact hbl n (by omega)
          have := id_ok (G := G) (deedNd kind u w) ⟨rfl, rfl, rfl⟩ hb6 (by omega)
          rw [hd.upd_app, h.upd_upd] at this
          rw [hF]
          exact this
        have fin2 : ∀ (L' : List Nd) (r : Heap), trunc H.length (upd H b z m L' ++ r) = upd H b z m L' := fun L' r => h.back L' r
        rcases c5 with ⟨hk, hw⟩ | ⟨hk, hw⟩ | ⟨hk, hw⟩ | ⟨hk, hw⟩ | ⟨⟨z1, z2, z3, z4⟩, hw⟩
        case inr.inr.inr.inr => 
          simp [ap0, apk, n20 z1, n52 z2, n100 z3, n116 z4]
          rw [hw] at bL
          rw [← hC, ← bL]
          refine W_up 4 (fun i => [(4, .ptr H.length 0), (5, .ptr (H.length + 1) 0), (6, .ptr (H.length + 2) 0), (7, .ptr (H.length + 3) 0), (11, .ptr (H.length + 4) 0), (55, .rs (H.length + 5) 0 4 1), (56, .int .i64 4), (57, .int .i64 i)])
            (fun i => BB (Ls i)) (fun i => (0 < i → (sumsN L kind a c).2.1 = false) ∧ (1 < i → (bothN L1 kind a c).2.1 = false) ∧ (2 < i → (plainN kind (constA c) xn yn).2 = false) ∧ (3 < i → (sw && (plainN kind (constA a) yn xn).2) = false)) ?_ ?_
          · simp [keep_cl, bl, ts0, hLs0]
          intro i hi4 hp
          by_cases hlt : i < 4
          · rcases (show i = 0 ∨ i = 1 ∨ i = 2 ∨ i = 3 by omega) with rfl | rfl | rfl | rfl
            · simp [hLs0, q5, C0, lC]
              refine callVSF_of A1 ?_
              cases es : (sumsN L kind a c).2.1 with
              | true =>
                have hF : bAlu2 L kind xn yn a c = ((sumsN L kind a c).1, L1) := by rw [hL1, bAlu2]; simp only [es, if_true]
                simp [hF, fin0]
              | false =>
                simp [hp, es, bl, keep_cl, ts1, hLs1, hLs2, hLs3, hLs4, a01, a11, a21, a31]
            · have p1 := hp.1 (by omega)
              simp [hLs1, q5, C1, lC]
              refine callVSF_of A2 ?_
              cases es : (bothN L1 kind a c).2.1 with
              | true =>
                have hF : bAlu2 L kind xn yn a c = ((bothN L1 kind a c).1, (bothN L1 kind a c).2.2) := by rw [bAlu2]; simp only [p1, ← hL1, es, if_true, Bool.false_eq_true, if_false]
                simp [hF, fin0]
              | false =>
                have eL := bothN_L L1 kind a c es
                simp [p1, es, bl, keep_cl, ts1, hLs2, eL, a11]
            · have p1 := hp.1 (by omega)
              have p2 := hp.2.1 (by omega)
              simp [hLs2, q5, C2, lC]
              refine callVSF_of A3 ?_
              cases es : (plainN kind (constA c) xn yn).2 with
              | true =>
                have hF : bAlu2 L kind xn yn a c = ((plainN kind (constA c) xn yn).1, L1) := by rw [bAlu2]; simp only [p1, p2, ← hL1, es, if_true, Bool.false_eq_true, if_false]
                simp [hF, fin0]
              | false =>
                simp [p1, p2, es, bl, keep_cl, ts1, hLs1, hLs2, hLs3, hLs4, a01, a11, a21, a31]
            · have p1 := hp.1 (by omega)
              have p2 := hp.2.1 (by omega)
              have p3 := hp.2.2.1 (by omega)
              simp [hLs3, q5, C3, lC]
              refine callVSF_of A4 ?_
              cases es : (sw && (plainN kind (constA a) yn xn).2) with
              | true =>
                have es' : swapsB kind = true ∧ (plainN kind (constA a) yn xn).2 = true := by rw [← hsw]; simpa using es
                have hF : bAlu2 L kind xn yn a c = ((plainN kind (constA a) yn xn).1, L1) := by rw [bAlu2]; simp only [p1, p2, p3, ← hL1, es', if_true, Bool.false_eq_true, if_false, and_self]
                have esw : sw = true := by rw [hsw]; exact es'.1
                simp [hF, fin0, esw]
              | false =>
                simp [p1, p2, p3, es, bl, keep_cl, ts1, hLs1, hLs2, hLs3, hLs4, a01, a11, a21, a31]
                exact fun hh => by simpa [hh] using es
          · obtain rfl : i = 4 := by omega
            have p1 := hp.1 (by omega)
            have p2 := hp.2.1 (by omega)
            have p3 := hp.2.2.1 (by omega)
            have p4 := hp.2.2.2 (by omega)
            have p4' : ¬ (swapsB kind = true ∧ (plainN kind (constA a) yn xn).2 = true) := fun hh => by rw [hsw, hh.1, hh.2] at p4; cases p4
            have esw : swapsB kind = true := by rw [← hsw]; exact hw
            have p5 : (plainN kind (constA a) yn xn).2 = false := by cases e : (plainN kind (constA a) yn xn).2 with | false => rfl | true => exact absurd ⟨esw, e⟩ p4'
            by_cases hyx : yn < xn
            · have hF : bAlu2 L kind xn yn a c = putN L1 (deedNd kind yn xn) := by rw [bAlu2]; simp only [p1, p2, p3, ← hL1, p5, esw, hyx, if_true, Bool.false_eq_true, if_false, and_false, and_self]
              simp [hLs4, q4, q2, q3, q1, q0, hw, hyx]
              rw [hBB]
              simp [-fillC, nz, g0, gk, sk, hfill]
              refine callSF_of (done yn xn hF) ?_
              simp [fin2]
            · have hF : bAlu2 L kind xn yn a c = putN L1 (deedNd kind xn yn) := by rw [bAlu2]; simp only [p1, p2, p3, ← hL1, p5, esw, hyx, if_true, Bool.false_eq_true, if_false, and_false, and_self]
              simp [hLs4, q4, q2, q3, q1, q0, hw, hyx]
              rw [hBB]
              simp [-fillC, nz, g0, gk, sk, hfill]
              refine callSF_of (done xn yn hF) ?_
              simp [fin2]
        case inl =>
          have u1 : (kind != 20) = false := bneF hk
          simp [ap0, apk, u1]
          rw [hw] at bL
          rw [← hC, ← bL]
          refine W_up 4 (fun i => [(4, .ptr H.length 0), (5, .ptr (H.length + 1) 0), (6, .ptr (H.length + 2) 0), (7, .ptr (H.length + 3) 0), (11, .ptr (H.length + 4) 0), (55, .rs (H.length + 5) 0 4 1), (56, .int .i64 4), (57, .int .i64 i)])
            (fun i => BB (Ls i)) (fun i => (0 < i → (sumsN L kind a c).2.1 = false) ∧ (1 < i → (bothN L1 kind a c).2.1 = false) ∧ (2 < i → (plainN kind (constA c) xn yn).2 = false) ∧ (3 < i → (sw && (plainN kind (constA a) yn xn).2) = false)) ?_ ?_
          · simp [keep_cl, bl, ts0, hLs0]
          intro i hi4 hp
          by_cases hlt : i < 4
          · rcases (show i = 0 ∨ i = 1 ∨ i = 2 ∨ i = 3 by omega) with rfl | rfl | rfl | rfl
            · simp [hLs0, q5, C0, lC]
              refine callVSF_of A1 ?_
              cases es : (sumsN L kind a c).2.1 with
              | true =>
                have hF : bAlu2 L kind xn yn a c = ((sumsN L kind a c).1, L1) := by rw [hL1, bAlu2]; simp only [es, if_true]
                simp [hF, fin0]
              | false =>
                simp [hp, es, bl, keep_cl, ts1, hLs1, hLs2, hLs3, hLs4, a01, a11, a21, a31]
            · have p1 := hp.1 (by omega)
              simp [hLs1, q5, C1, lC]
              refine callVSF_of A2 ?_
              cases es : (bothN L1 kind a c).2.1 with
              | true =>
                have hF : bAlu2 L kind xn yn a c = ((bothN L1 kind a c).1, (bothN L1 kind a c).2.2) := by rw [bAlu2]; simp only [p1, ← hL1, es, if_true, Bool.false_eq_true, if_false]
                simp [hF, fin0]
              | false =>
                have eL := bothN_L L1 kind a c es
                simp [p1, es, bl, keep_cl, ts1, hLs2, eL, a11]
            · have p1 := hp.1 (by omega)
              have p2 := hp.2.1 (by omega)
              simp [hLs2, q5, C2, lC]
              refine callVSF_of A3 ?_
              cases es : (plainN kind (constA c) xn yn).2 with
              | true =>
                have hF : bAlu2 L kind xn yn a c = ((plainN kind (constA c) xn yn).1, L1) := by rw [bAlu2]; simp only [p1, p2, ← hL1, es, if_true, Bool.false_eq_true, if_false]
                simp [hF, fin0]
              | false =>
                simp [p1, p2, es, bl, keep_cl, ts1, hLs1, hLs2, hLs3, hLs4, a01, a11, a21, a31]
            · have p1 := hp.1 (by omega)
              have p2 := hp.2.1 (by omega)
              have p3 := hp.2.2.1 (by omega)
              simp [hLs3, q5, C3, lC]
              refine callVSF_of A4 ?_
              cases es : (sw && (plainN kind (constA a) yn xn).2) with
              | true =>
                have es' : swapsB kind = true ∧ (plainN kind (constA a) yn xn).2 = true := by rw [← hsw]; simpa using es
                have hF : bAlu2 L kind xn yn a c = ((plainN kind (constA a) yn xn).1, L1) := by rw [bAlu2]; simp only [p1, p2, p3, ← hL1, es', if_true, Bool.false_eq_true, if_false, and_self]
                have esw : sw = true := by rw [hsw]; exact es'.1
                simp [hF, fin0, esw]
              | false =>
                simp [p1, p2, p3, es, bl, keep_cl, ts1, hLs1, hLs2, hLs3, hLs4, a01, a11, a21, a31]
                exact fun hh => by simpa [hh] using es
          · obtain rfl : i = 4 := by omega
            have p1 := hp.1 (by omega)
            have p2 := hp.2.1 (by omega)
            have p3 := hp.2.2.1 (by omega)
            have p4 := hp.2.2.2 (by omega)
            have esw : swapsB kind = false := by rw [← hsw]; exact hw
            have hF : bAlu2 L kind xn yn a c = putN L1 (deedNd kind xn yn) := by rw [bAlu2]; simp only [p1, p2, p3, ← hL1, esw, Bool.false_eq_true, if_false, false_and]
            simp [hLs4, q4, q2, q3, q1, q0, hw]
            rw [hBB]
            simp [-fillC, nz, g0, gk, sk, hfill]
            refine callSF_of (done xn yn hF) ?_
            simp [fin2]
        case inr.inl =>
          have u1 : (kind != 20) = true := bneT (by omega)
          have u2 : (kind != 52) = false := bneF hk
          simp [ap0, apk, u1, u2]
          rw [hw] at bL
          rw [← hC, ← bL]
          refine W_up 4 (fun i => [(4, .ptr H.length 0), (5, .ptr (H.length + 1) 0), (6, .ptr (H.length + 2) 0), (7, .ptr (H.length + 3) 0), (11, .ptr (H.length + 4) 0), (55, .rs (H.length + 5) 0 4 1), (56, .int .i64 4), (57, .int .i64 i)])
            (fun i => BB (Ls i)) (fun i => (0 < i → (sumsN L kind a c).2.1 = false) ∧ (1 < i → (bothN L1 kind a c).2.1 = false) ∧ (2 < i → (plainN kind (constA c) xn yn).2 = false) ∧ (3 < i → (sw && (plainN kind (constA a) yn xn).2) = false)) ?_ ?_
          · simp [keep_cl, bl, ts0, hLs0]
          intro i hi4 hp
          by_cases hlt : i < 4
          · rcases (show i = 0 ∨ i = 1 ∨ i = 2 ∨ i = 3 by omega) with rfl | rfl | rfl | rfl
            · simp [hLs0, q5, C0, lC]
              refine callVSF_of A1 ?_
              cases es : (sumsN L kind a c).2.1 with
              | true =>
                have hF : bAlu2 L kind xn yn a c = ((sumsN L kind a c).1, L1) := by rw [hL1, bAlu2]; simp only [es, if_true]
                simp [hF, fin0]
              | false =>
                simp [hp, es, bl, keep_cl, ts1, hLs1, hLs2, hLs3, hLs4, a01, a11, a21, a31]
            · have p1 := hp.1 (by omega)
              simp [hLs1, q5, C1, lC]
              refine callVSF_of A2 ?_
              cases es : (bothN L1 kind a c).2.1 with
              | true =>
                have hF : bAlu2 L kind xn yn a c = ((bothN L1 kind a c).1, (bothN L1 kind a c).2.2) := by rw [bAlu2]; simp only [p1, ← hL1, es, if_true, Bool.false_eq_true, if_false]
                simp [hF, fin0]
              | false =>
                have eL := bothN_L L1 kind a c es
                simp [p1, es, bl, keep_cl, ts1, hLs2, eL, a11]
            · have p1 := hp.1 (by omega)
              have p2 := hp.2.1 (by omega)
              simp [hLs2, q5, C2, lC]
              refine callVSF_of A3 ?_
              cases es : (plainN kind (constA c) xn yn).2 with
              | true =>
                have hF : bAlu2 L kind xn yn a c = ((plainN kind (constA c) xn yn).1, L1) := by rw [bAlu2]; simp only [p1, p2, ← hL1, es, if_true, Bool.false_eq_true, if_false]
                simp [hF, fin0]
              | false =>
                simp [p1, p2, es, bl, keep_cl, ts1, hLs1, hLs2, hLs3, hLs4, a01, a11, a21, a31]
            · have p1 := hp.1 (by omega)
              have p2 := hp.2.1 (by omega)
              have p3 := hp.2.2.1 (by omega)
              simp [hLs3, q5, C3, lC]
              refine callVSF_of A4 ?_
              cases es : (sw && (plainN kind (constA a) yn xn).2) with
              | true =>
                have es' : swapsB kind = true ∧ (plainN kind (constA a) yn xn).2 = true := by rw [← hsw]; simpa using es
                have hF : bAlu2 L kind xn yn a c = ((plainN kind (constA a) yn xn).1, L1) := by rw [bAlu2]; simp only [p1, p2, p3, ← hL1, es', if_true, Bool.false_eq_true, if_false, and_self]
                have esw : sw = true := by rw [hsw]; exact es'.1
                simp [hF, fin0, esw]
              | false =>
                simp [p1, p2, p3, es, bl, keep_cl, ts1, hLs1, hLs2, hLs3, hLs4, a01, a11, a21, a31]
                exact fun hh => by simpa [hh] using es
          · obtain rfl : i = 4 := by omega
            have p1 := hp.1 (by omega)
            have p2 := hp.2.1 (by omega)
            have p3 := hp.2.2.1 (by omega)
            have p4 := hp.2.2.2 (by omega)
            have esw : swapsB kind = false := by rw [← hsw]; exact hw
            have hF : bAlu2 L kind xn yn a c = putN L1 (deedNd kind xn yn) := by rw [bAlu2]; simp only [p1, p2, p3, ← hL1, esw, Bool.false_eq_true, if_false, false_and]
            simp [hLs4, q4, q2, q3, q1, q0, hw]
            rw [hBB]
            simp [-fillC, nz, g0, gk, sk, hfill]
            refine callSF_of (done xn yn hF) ?_
            simp [fin2]
        case inr.inr.inl =>
          have u1 : (kind != 20) = true := bneT (by omega)
          have u2 : (kind != 52) = true := bneT (by omega)
          have u3 : (kind != 100) = false := bneF hk
          simp [ap0, apk, u1, u2, u3]
          rw [hw] at bL
          rw [← hC, ← bL]
          refine W_up 4 (fun i => [(4, .ptr H.length 0), (5, .ptr (H.length + 1) 0), (6, .ptr (H.length + 2) 0), (7, .ptr (H.length + 3) 0), (11, .ptr (H.length + 4) 0), (55, .rs (H.length + 5) 0 4 1), (56, .int .i64 4), (57, .int .i64 i)])
            (fun i => BB (Ls i)) (fun i => (0 < i → (sumsN L kind a c).2.1 = false) ∧ (1 < i → (bothN L1 kind a c).2.1 = false) ∧ (2 < i → (plainN kind (constA c) xn yn).2 = false) ∧ (3 < i → (sw && (plainN kind (constA a) yn xn).2) = false)) ?_ ?_
          · simp [keep_cl, bl, ts0, hLs0]
          intro i hi4 hp
          by_cases hlt : i < 4
          · rcases (show i = 0 ∨ i = 1 ∨ i = 2 ∨ i = 3 by omega) with rfl | rfl | rfl | rfl
            · simp [hLs0, q5, C0, lC]
              refine callVSF_of A1 ?_
              cases es : (sumsN L kind a c).2.1 with
              | true =>
                have hF : bAlu2 L kind xn yn a c = ((sumsN L kind a c).1, L1) := by rw [hL1, bAlu2]; simp only [es, if_true]
                simp [hF, fin0]
              | false =>
                simp [hp, es, bl, keep_cl, ts1, hLs1, hLs2, hLs3, hLs4, a01, a11, a21, a31]
            · have p1 := hp.1 (by omega)
              simp [hLs1, q5, C1, lC]
              refine callVSF_of A2 ?_
              cases es : (bothN L1 kind a c).2.1 with
              | true =>
                have hF : bAlu2 L kind xn yn a c = ((bothN L1 kind a c).1, (bothN L1 kind a c).2.2) := by rw [bAlu2]; simp only [p1, ← hL1, es, if_true, Bool.false_eq_true, if_false]
                simp [hF, fin0]
              | false =>
                have eL := bothN_L L1 kind a c es
                simp [p1, es, bl, keep_cl, ts1, hLs2, eL, a11]
            · have p1 := hp.1 (by omega)
              have p2 := hp.2.1 (by omega)
              simp [hLs2, q5, C2, lC]
              refine callVSF_of A3 ?_
              cases es : (plainN kind (constA c) xn yn).2 with
              | true =>
                have hF : bAlu2 L kind xn yn a c = ((plainN kind (constA c) xn yn).1, L1) := by rw [bAlu2]; simp only [p1, p2, ← hL1, es, if_true, Bool.false_eq_true, if_false]
                simp [hF, fin0]
              | false =>
                simp [p1, p2, es, bl, keep_cl, ts1, hLs1, hLs2, hLs3, hLs4, a01, a11, a21, a31]
            · have p1 := hp.1 (by omega)
              have p2 := hp.2.1 (by omega)
              have p3 := hp.2.2.1 (by omega)
              simp [hLs3, q5, C3, lC]
              refine callVSF_of A4 ?_
              cases es : (sw && (plainN kind (constA a) yn xn).2) with
              | true =>
                have es' : swapsB kind = true ∧ (plainN kind (constA a) yn xn).2 = true := by rw [← hsw]; simpa using es
                have hF : bAlu2 L kind xn yn a c = ((plainN kind (constA a) yn xn).1, L1) := by rw [bAlu2]; simp only [p1, p2, p3, ← hL1, es', if_true, Bool.false_eq_true, if_false, and_self]
                have esw : sw = true := by rw [hsw]; exact es'.1
                simp [hF, fin0, esw]
              | false =>
                simp [p1, p2, p3, es, bl, keep_cl, ts1, hLs1, hLs2, hLs3, hLs4, a01, a11, a21, a31]
                exact fun hh => by simpa [hh] using es
          · obtain rfl : i = 4 := by omega
            have p1 := hp.1 (by omega)
            have p2 := hp.2.1 (by omega)
            have p3 := hp.2.2.1 (by omega)
            have p4 := hp.2.2.2 (by omega)
            have esw : swapsB kind = false := by rw [← hsw]; exact hw
            have hF : bAlu2 L kind xn yn a c = putN L1 (deedNd kind xn yn) := by rw [bAlu2]; simp only [p1, p2, p3, ← hL1, esw, Bool.false_eq_true, if_false, false_and]
            simp [hLs4, q4, q2, q3, q1, q0, hw]
            rw [hBB]
            simp [-fillC, nz, g0, gk, sk, hfill]
            refine callSF_of (done xn yn hF) ?_
            simp [fin2]
        case inr.inr.inr.inl =>
          have u1 : (kind != 20) = true := bneT (by omega)
          have u2 : (kind != 52) = true := bneT (by omega)
          have u3 : (kind != 100) = true := bneT (by omega)
          have u4 : (kind != 116) = false := bneF hk
          simp [ap0, apk, u1, u2, u3, u4]
          rw [hw] at bL
          rw [← hC, ← bL]
          refine W_up 4 (fun i => [(4, .ptr H.length 0), (5, .ptr (H.length + 1) 0), (6, .ptr (H.length + 2) 0), (7, .ptr (H.length + 3) 0), (11, .ptr (H.length + 4) 0), (55, .rs (H.length + 5) 0 4 1), (56, .int .i64 4), (57, .int .i64 i)])
            (fun i => BB (Ls i)) (fun i => (0 < i → (sumsN L kind a c).2.1 = false) ∧ (1 < i → (bothN L1 kind a c).2.1 = false) ∧ (2 < i → (plainN kind (constA c) xn yn).2 = false) ∧ (3 < i → (sw && (plainN kind (constA a) yn xn).2) = false)) ?_ ?_
          · simp [keep_cl, bl, ts0, hLs0]
          intro i hi4 hp
          by_cases hlt : i < 4
          · rcases (show i = 0 ∨ i = 1 ∨ i = 2 ∨ i = 3 by omega) with rfl | rfl | rfl | rfl
            · simp [hLs0, q5, C0, lC]
              refine callVSF_of A1 ?_
              cases es : (sumsN L kind a c).2.1 with
              | true =>
                have hF : bAlu2 L kind xn yn a c = ((sumsN L kind a c).1, L1) := by rw [hL1, bAlu2]; simp only [es, if_true]
                simp [hF, fin0]
              | false =>
                simp [hp, es, bl, keep_cl, ts1, hLs1, hLs2, hLs3, hLs4, a01, a11, a21, a31]
            · have p1 := hp.1 (by omega)
              simp [hLs1, q5, C1, lC]
              refine callVSF_of A2 ?_
              cases es : (bothN L1 kind a c).2.1 with
              | true =>
                have hF : bAlu2 L kind xn yn a c = ((bothN L1 kind a c).1, (bothN L1 kind a c).2.2) := by rw [bAlu2]; simp only [p1, ← hL1, es, if_true, Bool.false_eq_true, if_false]
                simp [hF, fin0]
              | false =>
                have eL := bothN_L L1 kind a c es
                simp [p1, es, bl, keep_cl, ts1, hLs2, eL, a11]
            · have p1 := hp.1 (by omega)
              have p2 := hp.2.1 (by omega)
              simp [hLs2, q5, C2, lC]
              refine callVSF_of A3 ?_
              cases es : (plainN kind (constA c) xn yn).2 with
              | true =>
                have hF : bAlu2 L kind xn yn a c = ((plainN kind (constA c) xn yn).1, L1) := by rw [bAlu2]; simp only [p1, p2, ← hL1, es, if_true, Bool.false_eq_true, if_false]
                simp [hF, fin0]
              | false =>
                simp [p1, p2, es, bl, keep_cl, ts1, hLs1, hLs2, hLs3, hLs4, a01, a11, a21, a31]
            · have p1 := hp.1 (by omega)
              have p2 := hp.2.1 (by omega)
              have p3 := hp.2.2.1 (by omega)
              simp [hLs3, q5, C3, lC]
              refine callVSF_of A4 ?_
              cases es : (sw && (plainN kind (constA a) yn xn).2) with
              | true =>
                have es' : swapsB kind = true ∧ (plainN kind (constA a) yn xn).2 = true := by rw [← hsw]; simpa using es
                have hF : bAlu2 L kind xn yn a c = ((plainN kind (constA a) yn xn).1, L1) := by rw [bAlu2]; simp only [p1, p2, p3, ← hL1, es', if_true, Bool.false_eq_true, if_false, and_self]
                have esw : sw = true := by rw [hsw]; exact es'.1
                simp [hF, fin0, esw]
              | false =>
                simp [p1, p2, p3, es, bl, keep_cl, ts1, hLs1, hLs2, hLs3, hLs4, a01, a11, a21, a31]
                exact fun hh => by simpa [hh] using es
          · obtain rfl : i = 4 := by omega
            have p1 := hp.1 (by omega)
            have p2 := hp.2.1 (by omega)
            have p3 := hp.2.2.1 (by omega)
            have p4 := hp.2.2.2 (by omega)
            have esw : swapsB kind = false := by rw [← hsw]; exact hw
            have hF : bAlu2 L kind xn yn a c = putN L1 (deedNd kind xn yn) := by rw [bAlu2]; simp only [p1, p2, p3, ← hL1, esw, Bool.false_eq_true, if_false, false_and]
            simp [hLs4, q4, q2, q3, q1, q0, hw]
            rw [hBB]
            simp [-fillC, nz, g0, gk, sk, hfill]
            refine callSF_of (done xn yn hF) ?_
            simp [fin2]
end Go.Ev

/- The numbers of a book's values. -/
namespace Go.Ev
open Go Go.RowKit
variable {G : Tbl}
set_option maxRecDepth 10000
set_option maxHeartbeats 4000000
set_option linter.unusedSimpArgs false
set_option linter.unusedVariables false
variable {H : Heap} {b z m : Nat} {L : List Nd}

def negN' (L : List Nd) : Int × List Nd := putN L (sumNd (0 :: zeros 34))
noncomputable def bNeg (L : List Nd) (x : Int) : Int × List Nd := if hasI L x = true then bAlu (negN' L).2 20 (negN' L).1 x else (-1, L)
theorem zero_ext (h : Inv L) : Ext L (negN' L).2 1 := (put_ext h (sum_good (by simp) (const_lt (by decide)) _)).1
theorem BNeg_ok [HasWd G] [HasAffine G] [HasBits G] [HasSym G] (x : Int) (h : Bk H b z m L) (hi : Inv L) (hs : L.length < 999980) : BF G 275 [.int .i64 x] H b z m (bNeg L x) := by
  refine SF_of HasSym.h_sym_Book_Neg (Nat.le_of_ble_eq_true rfl) ?_
  have hbk := h.shut.self
  have hus := h.upd_self
  simp
  refine callSF_of (hasF_ok x h) ?_
  cases hx : hasI L x with
  | false =>
    have hR : bNeg L x = (-1, L) := by rw [bNeg, if_neg (by simp [hx])]
    simp [hR, hbk, hus]
  | true =>
    have hR : bNeg L x = bAlu (negN' L).2 20 (negN' L).1 x := by rw [bNeg, if_pos hx]
    have e1 := zero_ext hi
    have l1 := e1.len
    have h1 := h.to e1.inv (by omega)
    simp [hbk]
    have hz := BConst_ok (G := G) 0 h (by omega)
    refine callSF_of hz ?_
    have hA := BAlu_ok (G := G) 20 (negN' L).1 x h1 e1.inv (by omega)
    rw [BF, h.upd_upd] at hA
    have fin := h.back (bAlu (negN' L).2 20 (negN' L).1 x).2 []
    simp at fin
    simp
    refine callSF_of hA ?_
    simp [hR, fin]

/-! Numbers. -/
/-- Arithmetic of numbers, where there are two. -/
def aluV (kind : Int) (o o' : Option Nat) : Option Nat := match o, o' with
  | some l, some r => if (doW kind l r).2 = true then some (doW kind l r).1 else none
  | _, _ => none
/-- A value's number, from those ahead. -/
noncomputable def nval (v : List Nat) (acc : List (Option Nat)) (a : Nd) : Option Nat :=
  if a.kind = 0 then some (fEval a.f v) else if a.kind = 1 then (asB a).map fun p => val p.1 p.2 (asg v)
  else aluV a.op acc[a.x]?.join acc[a.y]?.join
noncomputable def vals (v : List Nat) (L : List Nd) : List (Option Nat) := L.foldl (fun acc a => acc ++ [nval v acc a]) []
section
variable {v : List Nat}
theorem vals_snoc (L : List Nd) (a : Nd) : vals v (L ++ [a]) = vals v L ++ [nval v (vals v L) a] := by simp [vals]
theorem vals_len : ∀ L : List Nd, (vals v L).length = L.length := by
  intro L
  have : ∀ (L : List Nd) (acc : List (Option Nat)), (L.foldl (fun acc a => acc ++ [nval v acc a]) acc).length = acc.length + L.length := fun L => by
    induction L with
    | nil => intro acc; rfl
    | cons a L ih => intro acc; simp only [List.foldl_cons, ih]; simp; omega
  simpa [vals] using this L []
theorem vals_app : ∀ (L M : List Nd), vals v L <+: vals v (L ++ M) := by
  intro L M
  have : ∀ (M : List Nd) (acc : List (Option Nat)), acc <+: M.foldl (fun acc a => acc ++ [nval v acc a]) acc := fun M => by
    induction M with
    | nil => intro acc; exact List.prefix_refl _
    | cons a M ih => intro acc; exact (List.prefix_append _ _).trans (ih _)
  rw [vals, vals, List.foldl_append]
  exact this M _
theorem vals_pre {L L' : List Nd} (h : L <+: L') : vals v L <+: vals v L' := by obtain ⟨M, rfl⟩ := h; exact vals_app L M
theorem vals_take (L : List Nd) (i : Nat) : (vals v L).take i = vals v (L.take i) := by
  have h := vals_pre (v := v) (List.take_prefix i L)
  obtain ⟨t, ht⟩ := h
  by_cases hi : i ≤ L.length
  · rw [← ht, List.take_left' (by rw [vals_len, List.length_take]; omega)]
  · rw [List.take_of_length_le (by rw [vals_len]; omega), List.take_of_length_le (by omega)]
theorem vals_at {i : Nat} {a : Nd} (h : L[i]? = some a) : (vals v L)[i]? = some (nval v (vals v (L.take i)) a) := by
  have hl := (List.getElem?_eq_some_iff.1 h).1
  have e : L.take (i + 1) = L.take i ++ [a] := by rw [List.take_add_one, h]; rfl
  have h1 := vals_take (v := v) L (i + 1)
  rw [e, vals_snoc] at h1
  have h2 : ((vals v L).take (i + 1))[i]? = (vals v L)[i]? := by rw [List.getElem?_take]; simp
  rw [← h2, h1, List.getElem?_append_right (by rw [vals_len, List.length_take]; omega), vals_len, List.length_take]
  rw [show i - min i L.length = 0 by omega]
  rfl
end
theorem fEval_lt (f v : List Nat) : fEval f v < 4294967296 := Nat.mod_lt _ (by decide)
theorem vals_lt {v : List Nat} {k i : Nat} {o : Option Nat} (hi : Inv L) (h : (vals v (L.take k))[i]? = some o) : o.getD 0 < 4294967296 := by
  have main : ∀ (i : Nat) (o : Option Nat), (vals v L)[i]? = some o → o.getD 0 < 4294967296 := fun i => by
    induction i using Nat.strongRecOn with
    | _ i ih =>
      intro o ho
      have hl := (List.getElem?_eq_some_iff.1 ho).1
      rw [vals_len] at hl
      have ha := get_in hl
      rw [vals_at ha] at ho
      cases ho
      have hg := hi.good i _ ha
      have sub : ∀ j, j < i → (vals v (L.take i))[j]? = (vals v L)[j]? := fun j hj => by rw [← vals_take, List.getElem?_take, if_pos hj]
      rw [nval]
      split
      · exact fEval_lt _ _
      · split
        · cases e : asB L[i] with
          | none => simp
          | some p => simp only [Option.map_some, Option.getD_some]; exact val_lt _ _ _
        · rcases hg.2.2 with h | h | ⟨_, hx, hy, _⟩
          · contradiction
          · contradiction
          · unfold aluV
            split
            · rename_i l r el er
              split
              · rw [sub _ hx] at el
                rw [sub _ hy] at er
                obtain ⟨o1, h1, h1'⟩ : ∃ o1, (vals v L)[L[i].x]? = some o1 ∧ o1 = some l := by
                  cases e : (vals v L)[L[i].x]? with
                  | none => rw [e] at el; cases el
                  | some o1 => rw [e] at el; exact ⟨o1, rfl, el⟩
                obtain ⟨o2, h2, h2'⟩ : ∃ o2, (vals v L)[L[i].y]? = some o2 ∧ o2 = some r := by
                  cases e : (vals v L)[L[i].y]? with
                  | none => rw [e] at er; cases er
                  | some o2 => rw [e] at er; exact ⟨o2, rfl, er⟩
                have b1 := ih _ hx _ h1
                have b2 := ih _ hy _ h2
                rw [h1'] at b1
                rw [h2'] at b2
                exact doW32 _ b1 b2
              · simp
            · simp
  by_cases hik : i < k
  · rw [← vals_take, List.getElem?_take, if_pos hik] at h
    exact main i o h
  · rw [← vals_take, List.getElem?_take, if_neg hik] at h
    cases h
/-- What a value has, under its number. -/
noncomputable def valI (v : List Nat) (L : List Nd) (x : Int) : Option Nat := if hasI L x = true then (vals v L)[x.toNat]?.join else none
/-- Numbers, as cells. -/
def kn (l : List (Option Nat)) : List V := (l.map fun o => [V.int .u32 (o.getD 0 : Nat), .bool o.isSome]).flatten
theorem kn_len (l : List (Option Nat)) : (kn l).length = 2 * l.length := by
  induction l with
  | nil => rfl
  | cons o l ih => simp [kn] at ih ⊢; omega
theorem kn_drop : ∀ (l : List (Option Nat)) (i : Nat), (kn l).drop (2 * i) = kn (l.drop i)
  | [], i => by simp [kn]
  | o :: l, 0 => rfl
  | o :: l, i + 1 => by
    have e : kn (o :: l) = [V.int .u32 (o.getD 0 : Nat), .bool o.isSome] ++ kn l := rfl
    have e2 : ([V.int .u32 (o.getD 0 : Nat), .bool o.isSome] ++ kn l).drop 2 = kn l := rfl
    rw [e, show 2 * (i + 1) = 2 + 2 * i by omega, ← List.drop_drop, e2, kn_drop l i]
    rfl
theorem kn_take : ∀ (l : List (Option Nat)) (i : Nat), (kn l).take (2 * i) = kn (l.take i)
  | [], i => by simp [kn]
  | o :: l, 0 => rfl
  | o :: l, i + 1 => by
    have e : kn (o :: l) = [V.int .u32 (o.getD 0 : Nat), .bool o.isSome] ++ kn l := rfl
    rw [e, show 2 * (i + 1) = 2 * i + 1 + 1 by omega]
    show V.int .u32 (o.getD 0 : Nat) :: .bool o.isSome :: (kn l).take (2 * i) = _
    rw [kn_take l i]
    rfl
theorem kn_get {l : List (Option Nat)} {i : Nat} {o : Option Nat} (h : l[i]? = some o) : ((kn l).drop (2 * i)).take 2 = [V.int .u32 (o.getD 0 : Nat), .bool o.isSome] := by
  rw [kn_drop]
  obtain ⟨h1, rfl⟩ := List.getElem?_eq_some_iff.1 h
  rw [List.drop_eq_getElem_cons h1]
  rfl
theorem kn_set {l : List (Option Nat)} {i : Nat} (h : i < l.length) (o : Option Nat) : (kn l).take (2 * i) ++ ([V.int .u32 (o.getD 0 : Nat), .bool o.isSome] ++ (kn l).drop (2 * i + 2)) = kn (l.set i o) := by
  rw [kn_take, show 2 * i + 2 = 2 * (i + 1) by omega, kn_drop, List.set_eq_take_append_cons_drop, if_pos h]
  simp [kn]
theorem kn_cl (l : List (Option Nat)) (n : Nat) : clL n (kn l) = kn l := by
  induction l with
  | nil => rfl
  | cons o l ih =>
    have e : kn (o :: l) = .int .u32 (o.getD 0 : Nat) :: .bool o.isSome :: kn l := rfl
    rw [e]; simp [clL, V.cl, ih]
theorem Eval_F [HasWd G] [HasAffine G] [hB : HasBitsE G] [HasSym G] [HasSymEval G] (x : Int) (v : List Nat) (h : Bk H b z m L) (hi : Inv L) (hv : v.length = 34) (hvw : ∀ c ∈ v, c < 4294967296) :
    SF G 276 [.ptr b 0, .int .i64 x, .agg (cnats .u32 v)] H (.tup [.int .u32 ((valI v L x).getD 0 : Nat), .bool (valI v L x).isSome]) H := by
  refine SF_of HasSymEval.h_sym_Book_Eval (Nat.le_of_ble_eq_true rfl) ?_
  have htv := take_full (k := .u32) hv
  have h1 : Bk (H ++ [some (.cells (cnats .u32 v))]) b z m L := h.app fun n => by simp [Blk.cl]
  have hs1 := h1.shut.self
  have hsh := h.shut.back
  have hlt := h.lb
  have hb := h.hb'
  have hb2 : ∀ r : Heap, (H ++ r)[b]? = some (some (.cells [.vs (nds L) (.own z), .mp m])) := fun r => by rw [List.getElem?_append_left hlt]; exact hb
  have hsm := h.small
  simp at hs1
  simp [hv, htv]
  refine callSF_of (hasF_ok x h1) ?_
  cases hx : hasI L x with
  | false => simp [valI, hx, hsh]
  | true =>
    obtain ⟨hx0, hx1⟩ : 0 ≤ x ∧ x < L.length := by simpa [hasI] using hx
    obtain ⟨n, rfl⟩ := Int.eq_ofNat_of_zero_le hx0
    have hn : n < L.length := by omega
    have hnsz : (∀ f ∈ nds L, f.length = 60) = True := eq_true (nds_sz h.ok)
    obtain ⟨S, hS⟩ : ∃ S, S = (nds L).take (n + 1) := ⟨_, rfl⟩
    have hSl : S.length = n + 1 := by rw [hS]; simp; omega
    have hSg : ∀ (i : Nat) (a : Nd), i < n + 1 → L[i]? = some a → S[i]? = some a.cs := fun i a hi ha => by rw [hS, List.getElem?_take, if_pos hi, nds_get ha]
    have hrep : (List.replicate (n + 1) [V.int .u32 0, V.bool false]).flatten = kn (List.replicate (n + 1) none) := by simp [kn]
    simp (disch := omega) [hs1, hb2, ap0, apk, add1', -Int.natCast_add, leT, leTn, hnsz, ← hS, hSl, hrep]
    obtain ⟨T, hT⟩ : ∃ T : Nat → List (Option Nat), ∀ i, T i = vals v (L.take i) ++ List.replicate (n + 1 - i) none := ⟨_, fun _ => rfl⟩
    have T0 : T 0 = List.replicate (n + 1) none := by rw [hT]; simp [vals]
    have Tl : ∀ i, i ≤ n + 1 → (T i).length = n + 1 := fun i hi => by rw [hT]; simp [vals_len]; omega
    have Tg : ∀ i j, i ≤ n + 1 → j < i → (T i)[j]? = (vals v (L.take i))[j]? := fun i j hi hj => by rw [hT, List.getElem?_append_left (by simp [vals_len]; omega)]
    have Ts : ∀ (i : Nat) (a : Nd), i < n + 1 → L[i]? = some a → (T i).set i (nval v (vals v (L.take i)) a) = T (i + 1) := fun i a hi ha => by
      have e : L.take (i + 1) = L.take i ++ [a] := by rw [List.take_add_one, ha]; rfl
      have hl : (vals v (L.take i)).length = i := by rw [vals_len]; simp; omega
      rw [hT, hT, e, vals_snoc, List.set_append_right _ _ (by omega), hl, Nat.sub_self, show n + 1 - i = (n + 1 - (i + 1)) + 1 by omega, List.replicate_succ, List.set_cons_zero, List.append_assoc]
      rfl
    obtain ⟨BB, hBB⟩ : ∃ BB : Nat → Heap, ∀ i, BB i = H ++ [some (.cells (cnats .u32 v)), some (.cells (kn (T i)))] := ⟨_, fun _ => rfl⟩
    have hBk : ∀ i, Bk (BB i) b z m L := fun i => by rw [hBB]; exact h.app fun n => by simp [Blk.cl, kn_cl]
    have bl : ∀ i, (BB i).length = H.length + 2 := fun i => by rw [hBB]; simp
    have tr : ∀ i r, trunc (H.length + 2) (BB i ++ r) = BB i := fun i r => by have := (hBk i).shut.back r; rwa [bl] at this
    have tr' : ∀ i r, trunc (H.length + 2) (H ++ some (.cells (cnats .u32 v)) :: some (.cells (kn (T i))) :: r) = BB i := fun i r => by have := tr i r; rw [hBB] at this ⊢; simpa using this
    refine W_up (n + 1) (fun i => [(0, .ptr b 0), (1, .int .i64 n), (5, .ptr H.length 0), (8, .rs (H.length + 1) 0 (n + 1) 2), (32, .vs S .no), (33, .int .i64 (n + 1 : Nat)), (34, .int .i64 i)]) BB (fun _ => True) ?_ ?_
    · have := tr' 0 []
      have hb3 : (b < H.length + 2) = True := eq_true (by omega)
      simp [keep_cl, ← T0, this, hb3]
    intro i hi1 _
    by_cases hilt : i < n + 1
    · obtain ⟨a, ha⟩ : ∃ a, L[i]? = some a := ⟨_, get_in (by omega)⟩
      have hg := hSg i a hilt ha
      have hgd := hi.good i a ha
      have hl := Nd.len hgd.1
      have htk : a.cs.take 60 = a.cs := List.take_of_length_le (by omega)
      have hd0 : Nd0.cs.drop 60 = [] := rfl
      have hz60 : Nd0.cs.length = 60 := rfl
      have hge : S[i]'(by omega) = a.cs := (List.getElem?_eq_some_iff.1 hg).2
      have t1 : a.cs.take 1 = [.int .i64 (a.kind : Int)] := rfl
      have t35 : a.cs.tail.take 35 = cnats .u32 a.f := by
        show (cnats .u32 a.f ++ _).take 35 = _
        rw [List.take_left' (by simp [hgd.1.1])]
      have hsn := Ts i a hilt ha
      have hTl := Tl i (by omega)
      have kset := kn_set (l := T i) (i := i) (by omega) (nval v (vals v (L.take i)) a)
      rw [hsn, Nat.mul_comm 2 i] at kset
      have hin : ((i : Int) < (n : Int) + 1) = True := eq_true (by omega)
      have hb3 : (b < H.length + 2) = True := eq_true (by omega)
      have hi2 : i * 2 + 2 ≤ 2 * (n + 1) := by omega
      rw [hBB]
      simp (disch := omega) [ltT, hilt, hge, hl, htk, hd0, hz60, nz, ap0, apk, set0, setk, leTn, leFn, hSl, t1]
      have S0 : ∀ r, trunc (H.length + 2) (H ++ some (.cells (cnats .u32 v)) :: some (.cells (kn (T (i + 1)))) :: r) = BB (i + 1) := fun r => tr' (i + 1) r
      by_cases hk0 : a.kind = 0
      · have hk : ((a.kind : Int) == 0) = true := beqT (by omega)
        have nv : nval v (vals v (L.take i)) a = some (fEval a.f v) := by rw [nval, if_pos hk0]
        rw [nv] at kset
        simp only [Option.getD_some, Option.isSome_some, List.cons_append, List.nil_append] at kset
        simp (disch := omega) [hk, t35, ap0, apk, set0, setk, leTn, leFn, hl, hv, htv]
        refine callP_of (fEval_ok a.f v hgd.1.1 hv hgd.2.1.1) ?_
        simp (disch := omega) [hk, t35, ap0, apk, set0, setk, leTn, leFn, hl, hv, htv, hTl, kn_len, ltTn, hin, kset, S0, keep_cl, bl, hb3, add1', -Int.natCast_add]
      · have hk : ((a.kind : Int) == 0) = false := beqF (by omega)
        by_cases hk1 : a.kind = 1
        · have hk' : ((a.kind : Int) == 1) = true := beqT (by omega)
          obtain ⟨p, hp⟩ : ∃ p, asB a = some p := by rw [asB, if_pos hk1]; exact ⟨_, rfl⟩
          obtain ⟨hR, hpw⟩ := asB_right hgd.2.1 hp
          have nv : nval v (vals v (L.take i)) a = some (val p.1 p.2 (asg v)) := by rw [nval, if_neg hk0, if_pos hk1, hp]; rfl
          rw [nv] at kset
          simp only [Option.getD_some, Option.isSome_some, List.cons_append, List.nil_append] at kset
          have hR1 := hR.1
          have hR2 := tab_small hR.1 hR.2.1
          have hev := Eval_ok hB p.1 p.2 v (by omega) (by omega) hpw hv hvw
          rw [rightB_iff.2 hR, if_pos rfl] at hev
          simp only [FV] at hev
          simp (disch := omega) [hk, hk', t35, ap0, apk, set0, setk, leTn, leFn, hl, hv, htv]
          refine callSF_of (asBitsF_ok i a (h.app (r := [some (.cells (cnats .u32 v)), some (.cells (kn (T i))), some (.cells a.cs), none]) fun n => by simp [Blk.cl, kn_cl, Nd.cs_cl]) ha hgd.2.1) ?_
          simp (disch := omega) [hp, asBV, FV, hk, hk', t35, ap0, apk, set0, setk, leTn, leFn, hl, hv, htv]
          refine callP_of hev ?_
          simp (disch := omega) [hk, t35, ap0, apk, set0, setk, leTn, leFn, hl, hv, htv, hTl, kn_len, ltTn, hin, kset, S0, keep_cl, bl, hb3, add1', -Int.natCast_add]
        · have hk' : ((a.kind : Int) == 1) = false := beqF (by omega)
          obtain ⟨hk2, hax, hay, hop⟩ : a.kind = 2 ∧ a.x < i ∧ a.y < i ∧ (doW a.op 0 1).2 = true := by rcases hgd.2.2 with h | h | h; exact absurd h hk0; exact absurd h hk1; exact h
          have e57 : a.cs = (.int .i64 (a.kind : Int) :: (cnats .u32 a.f ++ .int .i64 (a.n : Int) :: (cnats .i64 a.vars ++ cnats .u32 a.tab))) ++ [.int .i64 a.op, .int .i64 (a.x : Int), .int .i64 (a.y : Int)] := by simp [Nd.cs]
          have l57 : (V.int .i64 (a.kind : Int) :: (cnats .u32 a.f ++ .int .i64 (a.n : Int) :: (cnats .i64 a.vars ++ cnats .u32 a.tab))).length = 57 := by simp [hgd.1.1, hgd.1.2.1, hgd.1.2.2]
          have d57 : a.cs.drop 57 = [.int .i64 a.op, .int .i64 (a.x : Int), .int .i64 (a.y : Int)] := by rw [e57]; exact List.drop_left' l57
          have d58 : (a.cs.drop 58).take 1 = [.int .i64 (a.x : Int)] := by rw [show 58 = 57 + 1 from rfl, ← List.drop_drop, d57]; rfl
          have d59 : (a.cs.drop 59).take 1 = [.int .i64 (a.y : Int)] := by rw [show 59 = 57 + 2 from rfl, ← List.drop_drop, d57]; rfl
          have d57' : (a.cs.drop 57).take 1 = [.int .i64 a.op] := by rw [d57]; rfl
          obtain ⟨ox, hox⟩ : ∃ o, (vals v (L.take i))[a.x]? = some o := ⟨_, get_in (by rw [vals_len, List.length_take]; omega)⟩
          obtain ⟨oy, hoy⟩ : ∃ o, (vals v (L.take i))[a.y]? = some o := ⟨_, get_in (by rw [vals_len, List.length_take]; omega)⟩
          have gx := kn_get (l := T i) (i := a.x) (o := ox) (by rw [Tg i a.x (by omega) hax, hox])
          have gy := kn_get (l := T i) (i := a.y) (o := oy) (by rw [Tg i a.y (by omega) hay, hoy])
          rw [Nat.mul_comm] at gx gy
          have hxn : ((a.x : Int) < (n : Int) + 1) = True := eq_true (by omega)
          have hyn : ((a.y : Int) < (n : Int) + 1) = True := eq_true (by omega)
          have h31 : H.length + 3 + 1 = H.length + 4 := rfl
          simp (disch := omega) [hk, hk', t35, ap0, apk, set0, setk, leTn, leFn, hl, hv, htv, d57', d58, d59, hxn, hyn, kn_len, hTl, gx, gy, h31]
          have hdo := doW_ok (G := G) (by infer_instance) a.op (ox.getD 0) (oy.getD 0) (vals_lt hi hox) (vals_lt hi hoy)
          refine callP_of hdo ?_
          simp (disch := omega) [hk, hk', t35, ap0, apk, set0, setk, leTn, leFn, hl, hv, htv, d57', d58, d59, hxn, hyn, kn_len, hTl, gx, gy, h31]
          have nv : nval v (vals v (L.take i)) a = aluV a.op ox oy := by
            rw [nval, if_neg hk0, if_neg hk1, hox, hoy]; rfl
          have same : nval v (vals v (L.take i)) a = none → T (i + 1) = T i := fun e => by
            rw [e] at hsn
            rw [← hsn]
            apply set_same
            rw [hT, List.getElem?_append_right (by rw [vals_len, List.length_take]; omega), vals_len, List.length_take, List.getElem?_replicate, if_pos (by omega)]
          have S1 : T (i + 1) = T i → ∀ r, trunc (H.length + 2) (H ++ some (.cells (cnats .u32 v)) :: some (.cells (kn (T i))) :: r) = BB (i + 1) := fun e r => by rw [← e]; exact S0 r
          cases ox with
          | none =>
            have S2 := S1 (same nv)
            simp (disch := omega) [S2, hk, hk', t35, ap0, apk, set0, setk, leTn, leFn, hl, hv, htv, hTl, kn_len, ltTn, hin, kset, S0, keep_cl, bl, hb3, add1', -Int.natCast_add]
          | some l =>
            cases oy with
            | none =>
              have S2 := S1 (same nv)
              simp (disch := omega) [S2, hk, hk', t35, ap0, apk, set0, setk, leTn, leFn, hl, hv, htv, hTl, kn_len, ltTn, hin, kset, S0, keep_cl, bl, hb3, add1', -Int.natCast_add]
            | some r =>
              cases hd : (doW a.op l r).2 with
              | false =>
                have S2 := S1 (same (by rw [nv, aluV]; simp only [hd, Bool.false_eq_true, if_false]))
                simp (disch := omega) [hd, S2, hk, hk', t35, ap0, apk, set0, setk, leTn, leFn, hl, hv, htv, hTl, kn_len, ltTn, hin, kset, S0, keep_cl, bl, hb3, add1', -Int.natCast_add]
              | true =>
                rw [aluV] at nv
                simp only [hd, if_true] at nv
                rw [nv] at kset
                simp only [Option.getD_some, Option.isSome_some, List.cons_append, List.nil_append] at kset
                simp (disch := omega) [hd, hk, hk', t35, ap0, apk, set0, setk, leTn, leFn, hl, hv, htv, hTl, kn_len, ltTn, hin, kset, S0, keep_cl, bl, hb3, add1', -Int.natCast_add]
    · obtain rfl : i = n + 1 := by omega
      obtain ⟨o, ho⟩ : ∃ o, (vals v L)[n]? = some o := ⟨_, get_in (by rw [vals_len]; omega)⟩
      have hv1 : valI v L n = o := by rw [valI, if_pos hx]; simp [ho]
      have hTo : (T (n + 1))[n]? = some o := by rw [Tg (n + 1) n (by omega) (by omega), ← vals_take, List.getElem?_take, if_pos (by omega), ho]
      have hkg := kn_get hTo
      rw [Nat.mul_comm] at hkg
      have hTl := Tl (n + 1) (by omega)
      rw [hBB]
      have hin : ((n : Int) < (n : Int) + 1) = True := eq_true (by omega)
      have k1 : ((kn (T (n + 1))).drop (n * 2)).take 1 = [.int .u32 (o.getD 0 : Nat)] := by
        have := congrArg (List.take 1) hkg
        rwa [List.take_take] at this
      have k2 : ((kn (T (n + 1))).drop (n * 2 + 1)).take 1 = [.bool o.isSome] := by
        have := congrArg (List.drop 1) hkg
        rw [List.drop_take, List.drop_drop] at this
        exact this
      simp (disch := omega) [hv1, ap0, apk, leTn, kn_len, hTl, hin, k1, k2, hsh]
end Go.Ev
