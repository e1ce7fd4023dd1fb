/- A maker in memory: contracts. -/
import Derived.Test.YtnkcdbffakcekaaDoorInsAW
set_option linter.unusedVariables false
set_option linter.unusedSimpArgs false
namespace Go.Ev
open Go Go.RowKit
variable {G : Tbl}
set_option maxRecDepth 10000
set_option maxHeartbeats 4000000
set_option linter.unusedSimpArgs false
set_option linter.unusedVariables false
def mkrC (c : List In4) (tk : Tk) : Blk := .cells [.vs (IL c) tk, .int .i64 0]
structure Mkr (H : Heap) (b : Nat) (c : List In4) (tk : Tk) : Prop where
 hb : H[b]? = some (some (mkrC c tk))
 htk : tk = .no ∨ tk = .full
 shut : HShut H
def mkSet (H : Heap) (b : Nat) (c : List In4) : Heap := H.set b (some (mkrC c .no))
@[simp] theorem mkSet_len (H : Heap) (b : Nat) (c : List In4) : (mkSet H b c).length = H.length := by simp [mkSet]
section
variable {H : Heap} {b : Nat} {c c' : List In4} {tk : Tk}
theorem Mkr.lb (h : Mkr H b c tk) : b < H.length := (List.getElem?_eq_some_iff.1 h.hb).1
theorem mkSet_shut (h : HShut H) (c' : List In4) : HShut (mkSet H b c') := by
 intro n hn
 simp only [mkSet_len] at hn
 have h1 := h n hn
 unfold mkSet
 rw [map_set', h1]
 simp [mkrC, Blk.cl, clL, V.cl, Tk.cl]
theorem Mkr.set (h : Mkr H b c tk) (c' : List In4) : Mkr (mkSet H b c') b c' .no := ⟨by rw [mkSet, List.getElem?_set_self h.lb], .inl rfl, mkSet_shut h.shut c'⟩
theorem mkSet_mkSet (c c' : List In4) : mkSet (mkSet H b c) b c' = mkSet H b c' := by simp [mkSet]
theorem mkSet_ne {i : Nat} (h : i ≠ b) (c' : List In4) : (mkSet H b c')[i]? = H[i]? := by rw [mkSet, List.getElem?_set_ne (Ne.symm h)]
theorem mkSet_app (h : b < H.length) (c' : List In4) (R : Heap) : mkSet (H ++ R) b c' = mkSet H b c' ++ R := by rw [mkSet, mkSet, List.set_append_left _ _ h]
theorem HShut.appL (h : HShut H) {R : Heap} (hr : ∀ m, H.length + R.length ≤ m → R.map (Option.map (Blk.cl m)) = R) : HShut (H ++ R) := by
 intro m hm
 rw [List.length_append] at hm
 rw [List.map_append, h m (by omega), hr m hm]
theorem Mkr.app (h : Mkr H b c tk) {R : Heap} (hr : ∀ m, H.length + R.length ≤ m → R.map (Option.map (Blk.cl m)) = R) : Mkr (H ++ R) b c tk :=
 ⟨by rw [List.getElem?_append_left h.lb]; exact h.hb, h.htk, h.shut.appL hr⟩
theorem Mkr.hb' (h : Mkr H b c tk) : H[b]? = some (some (.cells [.vs (IL c) tk, .int .i64 0])) := h.hb
theorem Mkr.ne (h : Mkr H b c tk) {i : Nat} {v : V} (hi : H[i]? = some (some (.cells [v]))) : i ≠ b := by
 intro e
 rw [e, h.hb] at hi
 simp [mkrC] at hi
theorem took_ok [HasMk G] (h : Mkr H b c tk) (c' : List In4) (l : Nat) : SF G 415 [.ptr b 0, FL c', .int .i64 l, .int .i64 0] H (.int .i64 l) (mkSet H b c') := by
 refine SF_of HasMk.h_lower_maker_took (Nat.le_of_ble_eq_true rfl) ?_
 have hb := h.hb'
 have hlb := h.lb
 have hs := (mkSet_shut (b := b) h.shut c').self
 rw [mkSet_len] at hs
 simp only [mkSet, mkrC] at hs
 have hg : ∀ x : Option Blk, (H.set b x)[b]? = some x := fun x => List.getElem?_set_self hlb
 simp [hb, FL, hg, mkSet, mkrC, hs]
 done
theorem addM_ok [HasIns G] [HasCode G] [HasMk G] (h : Mkr H b c tk) (op : Int) (k : Nat) (ho : addOk op k) (hl : c.length < 4096) : SF G 416 [.ptr b 0, .int .i64 op, .int .u32 k] H (.int .i64 (putF c op k).length) (mkSet H b (putF c op k)) := by
 refine SF_of HasMk.h_lower_maker_add (Nat.le_of_ble_eq_true rfl) ?_
 have w1 := Add_ok (G := G) c op k ho hl
 have w2 := took_ok (G := G) h (putF c op k) (putF c op k).length
 have hs := (mkSet_shut (b := b) h.shut (putF c op k)).self
 rw [mkSet_len] at hs
 have hb := h.hb'
 simp only [FL, IV, In4.cs] at w1 w2
 simp [hb]
 refine callP_of w1 ?_
 simp
 refine callSF_of w2 ?_
 simp [hs]
theorem branchM_ok [HasIns G] [HasCode G] [HasMk G] (h : Mkr H b c tk) (op : Int) (k t f : Nat) (ho : brOp op) (ht : 1 ≤ t ∧ t ≤ c.length) (hf : 1 ≤ f ∧ f ≤ c.length) (hl : c.length + 3 ≤ 4096) :
  SF G 417 [.ptr b 0, .int .i64 op, .int .u32 k, .int .i64 t, .int .i64 f] H (.int .i64 (branchL c op k t f).length) (mkSet H b (branchL c op k t f)) := by
 refine SF_of HasMk.h_lower_maker_branch (Nat.le_of_ble_eq_true rfl) ?_
 have w1 := BranchC_ok (G := G) c op k t f ho ht hf hl
 have w2 := took_ok (G := G) h (branchL c op k t f) (branchL c op k t f).length
 have hs := (mkSet_shut (b := b) h.shut (branchL c op k t f)).self
 rw [mkSet_len] at hs
 have hb := h.hb'
 simp only [FL] at w1 w2
 simp [hb]
 refine callP_of w1 ?_
 simp
 refine callSF_of w2 ?_
 simp [hs]
theorem part_ok [HasIns G] [HasCode G] [HasMk G] {H1 : Heap} {c1 : List In4} {g : Nat} {cap : List V} {r : V} (at_ mask : Nat) (hg : SF G g cap H r H1) (h1 : Mkr H1 b c1 .no) (hlen : H1.length = H.length)
  (ha : addOk 32 at_) (hl : c1.length + 1 < 4096) : SF G 418 [.ptr b 0, .int .u32 at_, .int .u32 mask, .fn g cap] H (.tup []) (mkSet H1 b (putF (putF c1 84 mask) 32 at_)) := by
 refine SF_of HasMk.h_lower_maker_part (Nat.le_of_ble_eq_true rfl) ?_
 have w1 := addM_ok (G := G) h1 84 mask (.inl rfl) (by omega)
 have w2 := addM_ok (G := G) (h1.set (putF c1 84 mask)) 32 at_ ha (by simp [putF]; omega)
 rw [mkSet_mkSet] at w2
 have hs := (mkSet_shut (b := b) h1.shut (putF (putF c1 84 mask) 32 at_)).self
 rw [mkSet_len, hlen] at hs
 obtain ⟨r1, H2, hb, hr, ht⟩ := hg
 simp
 refine callV_of (H1 := H2) (by simpa using hb) (fun h => by simp at h) ?_
 rw [hr, ht]
 simp
 refine callSF_of w1 ?_
 simp
 refine callSF_of w2 ?_
 simp [hs]
def i1C (n : Int) : Option (Option Blk) := some (some (.cells [.int .i64 n]))
def u1C (n : Int) : Option (Option Blk) := some (some (.cells [.int .u32 n]))
theorem testc1_ok [HasIns G] [HasCode G] [HasMk G] (h : Mkr H b c tk) {pm po pl pt pf : Nat} (op : Int) (k t f : Nat) (hm : H[pm]? = some (some (.cells [.ptr b 0]))) (hop : H[po]? = i1C op) (hlo : H[pl]? = u1C k) (hpt : H[pt]? = i1C t) (hpf : H[pf]? = i1C f)
  (ho : brOp op) (ht : 1 ≤ t ∧ t ≤ c.length) (hf : 1 ≤ f ∧ f ≤ c.length) (hl : c.length + 3 ≤ 4096) :
  SF G 419 [.ptr pm 0, .ptr po 0, .ptr pl 0, .ptr pt 0, .ptr pf 0] H (.int .i64 (branchL c op k t f).length) (mkSet H b (branchL c op k t f)) := by
 refine SF_of HasMk.h_lower_maker_test_1 (Nat.le_of_ble_eq_true rfl) ?_
 have w := branchM_ok (G := G) h op k t f ho ht hf hl
 have hs := (mkSet_shut (b := b) h.shut (branchL c op k t f)).self
 rw [mkSet_len] at hs
 simp only [i1C, u1C] at hop hlo hpt hpf
 simp [hm, hop, hlo, hpt, hpf]
 refine callSF_of w ?_
 simp [hs]
def half2 (c : List In4) (op : Int) (k t f lw : Nat) : List In4 := if op = 21 then branchL c 21 k lw f else branchL (branchL c 37 k t f) 21 k lw (branchL c 37 k t f).length
def half2H (H : Heap) (c : List In4) (op : Int) (k t f pf : Nat) : Heap := if op = 21 then H else H.set pf (i1C ((branchL c 37 k t f).length : Nat)).get!
theorem testc2_ok [HasIns G] [HasCode G] [HasMk G] (h : Mkr H b c tk) {pm po ph pt pf pw : Nat} (op : Int) (k t f lw : Nat) (hm : H[pm]? = some (some (.cells [.ptr b 0]))) (hop : H[po]? = i1C op) (hhi : H[ph]? = u1C k) (hpt : H[pt]? = i1C t) (hpf : H[pf]? = i1C f) (hpw : H[pw]? = i1C lw)
  (hne : pm ≠ pf ∧ ph ≠ pf ∧ pw ≠ pf) (ht : 1 ≤ t ∧ t ≤ c.length) (hf : 1 ≤ f ∧ f ≤ c.length) (hw : 1 ≤ lw ∧ lw ≤ c.length) (hl : c.length + 6 ≤ 4096) :
  SF G 420 [.ptr po 0, .ptr pm 0, .ptr ph 0, .ptr pt 0, .ptr pf 0, .ptr pw 0] H (.int .i64 (half2 c op k t f lw).length) (mkSet (half2H H c op k t f pf) b (half2 c op k t f lw)) := by
 refine SF_of HasMk.h_lower_maker_test_2 (Nat.le_of_ble_eq_true rfl) ?_
 have nm := h.ne hm
 have no := h.ne (by simpa [i1C] using hop)
 have nh := h.ne (by simpa [u1C] using hhi)
 have nt := h.ne (by simpa [i1C] using hpt)
 have nf := h.ne (by simpa [i1C] using hpf)
 have nw := h.ne (by simpa [i1C] using hpw)
 have lpf : pf < H.length := by simp only [i1C] at hpf; exact (List.getElem?_eq_some_iff.1 hpf).1
 simp only [i1C, u1C] at hop hhi hpt hpf hpw
 by_cases e : op = 21
 ·subst e
  have w := branchM_ok (G := G) h 21 k lw f (.inl rfl) hw hf (by omega)
  have hs := (mkSet_shut (b := b) h.shut (branchL c 21 k lw f)).self
  rw [mkSet_len] at hs
  simp [hm, hop, hhi, hpt, hpf, hpw]
  refine callSF_of w ?_
  simp [hs, half2, half2H]
 ·have w1 := branchM_ok (G := G) h 37 k t f (.inr (.inl rfl)) ht hf (by omega)
  have g := (branch_grown c 37 k t f).len
  have gp := branch_pos c 37 k t f
  simp only [half2, half2H, if_neg e, i1C, Option.get!_some]
  generalize hc1 : branchL c 37 k t f = c1 at *
  have hshut : HShut ((mkSet H b c1).set pf (some (.cells [.int .i64 (c1.length : Nat)]))) := by
   intro n hn
   rw [List.length_set] at hn
   rw [map_set', mkSet_shut h.shut c1 n hn]
   simp [Blk.cl, clL, V.cl]
  have hm1 : Mkr ((mkSet H b c1).set pf (some (.cells [.int .i64 (c1.length : Nat)]))) b c1 .no := ⟨by rw [List.getElem?_set_ne nf]; exact (h.set c1).hb, .inl rfl, hshut⟩
  have w2 := branchM_ok (G := G) hm1 21 k lw c1.length (.inl rfl) ⟨hw.1, by omega⟩ (by omega) (by omega)
  have hs := (mkSet_shut (b := b) hshut (branchL c1 21 k lw c1.length)).self
  rw [mkSet_len, List.length_set, mkSet_len] at hs
  have e' : (op != 21) = true := bneT e
  have m1 : (mkSet H b c1)[pm]? = some (some (.cells [.ptr b 0])) := by rw [mkSet_ne nm]; exact hm
  have m2 : (mkSet H b c1)[ph]? = some (some (.cells [.int .u32 k])) := by rw [mkSet_ne nh]; exact hhi
  have m3 : (mkSet H b c1)[pf]? = some (some (.cells [.int .i64 f])) := by rw [mkSet_ne nf]; exact hpf
  have m4 : (mkSet H b c1)[pw]? = some (some (.cells [.int .i64 lw])) := by rw [mkSet_ne nw]; exact hpw
  have m5 : ∀ x, ((mkSet H b c1).set pf x)[pm]? = some (some (.cells [.ptr b 0])) := fun x => by rw [List.getElem?_set_ne hne.1.symm]; exact m1
  have m6 : ∀ x, ((mkSet H b c1).set pf x)[ph]? = some (some (.cells [.int .u32 k])) := fun x => by rw [List.getElem?_set_ne hne.2.1.symm]; exact m2
  have m7 : ∀ x, ((mkSet H b c1).set pf x)[pw]? = some (some (.cells [.int .i64 lw])) := fun x => by rw [List.getElem?_set_ne hne.2.2.symm]; exact m4
  have m8 : ∀ x : Option Blk, ((mkSet H b c1).set pf x)[pf]? = some x := fun x => List.getElem?_set_self (by rw [mkSet_len]; exact lpf)
  have fin : mkSet ((mkSet H b c1).set pf (some (.cells [.int .i64 (c1.length : Nat)]))) b (branchL c1 21 k lw c1.length) = mkSet (H.set pf (some (.cells [.int .i64 (c1.length : Nat)]))) b (branchL c1 21 k lw c1.length) := by
   unfold mkSet
   rw [List.set_comm _ _ (Ne.symm nf)]
   simp
   done
  rw [fin] at hs w2
  simp [hm, hop, hhi, hpt, hpf, e, e']
  refine callSF_of w1 ?_
  simp [m3, m5, m6, m7, m8]
  refine callSF_of w2 ?_
  simp [hs]
def tR (b : Nat) (y : Cd) (t f : Nat) : Heap := [some (.cells [.ptr b 0]), some (.cells y.cs), some (.cells [.int .i64 t]), some (.cells [.int .i64 f]), some (.cells [.int .u32 (lo y.val : Nat)]), some (.cells [.int .u32 (hi y.val : Nat)]), some (.cells [.int .i64 (opCmp y.cmp)])]
theorem tR_cl {b m : Nat} (y : Cd) (t f : Nat) (hb : b < m) : (tR b y t f).map (Option.map (Blk.cl m)) = tR b y t f := by
 simp [tR, Blk.cl, clL, V.cl, Cd.cs, hb]
theorem part1_ok [HasIns G] [HasCode G] [HasMk G] (h : Mkr H b c tk) (y : Cd) (t f : Nat) (hy : y.right = true) (ht : 1 ≤ t ∧ t ≤ c.length) (hf : 1 ≤ f ∧ f ≤ c.length) (hl : c.length + 13 ≤ 4096) :
  SF G 418 [.ptr b 0, .int .u32 (16 + 8 * y.arg.toNat : Nat), .int .u32 (lo y.mask : Nat), .fn 419 [.ptr H.length 0, .ptr (H.length + 6) 0, .ptr (H.length + 4) 0, .ptr (H.length + 2) 0, .ptr (H.length + 3) 0]] (H ++ tR b y t f) (.tup []) (mkSet H b (test1 c y t f) ++ tR b y t f) := by
 have h1 := h.app (R := tR b y t f) (fun m hm => tR_cl y t f (by have := h.lb; omega))
 have g : ∀ i, (H ++ tR b y t f)[H.length + i]? = (tR b y t f)[i]? := fun i => by rw [List.getElem?_append_right (by omega)]; congr 1; omega
 have w := testc1_ok (G := G) h1 (opCmp y.cmp) (lo y.val) t f (g 0) (g 6) (g 4) (g 2) (g 3) (op_br _) ht hf (by omega)
 have := (branch_grown c (opCmp y.cmp) (lo y.val) t f).len
 have p := part_ok (G := G) (b := b) (16 + 8 * y.arg.toNat) (lo y.mask) w (h1.set _) (by simp) (addr_ok hy 16 (.inl rfl)) (by omega)
 rw [mkSet_mkSet, mkSet_app h.lb] at p
 exact p
theorem part2_ok [HasIns G] [HasCode G] [HasMk G] (h : Mkr H b c tk) (y : Cd) (t f : Nat) (hy : y.right = true) (ht : 1 ≤ t ∧ t ≤ c.length) (hf : 1 ≤ f ∧ f ≤ c.length) (hl : c.length + 13 ≤ 4096) :
  ∃ R, SF G 418 [.ptr b 0, .int .u32 (20 + 8 * y.arg.toNat : Nat), .int .u32 (hi y.mask : Nat), .fn 420 [.ptr (H.length + 6) 0, .ptr H.length 0, .ptr (H.length + 5) 0, .ptr (H.length + 2) 0, .ptr (H.length + 3) 0, .ptr (H.length + 7) 0]]
   (mkSet H b (test1 c y t f) ++ (tR b y t f ++ [some (.cells [.int .i64 (test1 c y t f).length])])) (.tup []) (mkSet H b (test0 c y t f) ++ some (.cells [.ptr b 0]) :: R) := by
 have g1 := (test1_grown c y t f).len
 have h0 := h.set (test1 c y t f)
 have h1 := h0.app (R := tR b y t f ++ [some (.cells [.int .i64 (test1 c y t f).length])]) (fun m hm => by
  have := h.lb
  simp only [mkSet_len] at hm
  rw [List.map_append, tR_cl y t f (by omega)]
  simp [Blk.cl, clL, V.cl])
 have g : ∀ i, (mkSet H b (test1 c y t f) ++ (tR b y t f ++ [some (.cells [.int .i64 (test1 c y t f).length])]))[H.length + i]? = (tR b y t f ++ [some (.cells [.int .i64 (test1 c y t f).length])])[i]? := fun i => by
  rw [List.getElem?_append_right (by simp), mkSet_len]; congr 1; omega
 have w := testc2_ok (G := G) h1 (opCmp y.cmp) (hi y.val) t f (test1 c y t f).length (g 0) (g 6) (g 5) (g 2) (g 3) (g 7) ⟨by omega, by omega, by omega⟩ ⟨ht.1, by omega⟩ ⟨hf.1, by omega⟩ (by omega) (by omega)
 have e2 : half2 (test1 c y t f) (opCmp y.cmp) (hi y.val) t f (test1 c y t f).length = branchL (test2 c y t f) 21 (hi y.val) (test1 c y t f).length (if opCmp y.cmp = 21 then f else (test2 c y t f).length) := by
  unfold half2 test2
  split <;> rfl
 have hs2 : HShut (half2H (mkSet H b (test1 c y t f) ++ (tR b y t f ++ [some (.cells [.int .i64 (test1 c y t f).length])])) (test1 c y t f) (opCmp y.cmp) (hi y.val) t f (H.length + 3)) := by
  unfold half2H
  split
  ·exact h1.shut
  ·intro n hn
   rw [List.length_set] at hn
   rw [map_set', h1.shut n hn]
   simp [i1C, Blk.cl, clL, V.cl]
 have g2 := (test2_grown c y t f).len
 have g3 := (branch_grown (test2 c y t f) 21 (hi y.val) (test1 c y t f).length (if opCmp y.cmp = 21 then f else (test2 c y t f).length)).len
 have hb2 : b < (half2H (mkSet H b (test1 c y t f) ++ (tR b y t f ++ [some (.cells [.int .i64 (test1 c y t f).length])])) (test1 c y t f) (opCmp y.cmp) (hi y.val) t f (H.length + 3)).length := by
  have := h.lb
  unfold half2H
  split <;> simp <;> omega
 have h2 : Mkr (mkSet (half2H (mkSet H b (test1 c y t f) ++ (tR b y t f ++ [some (.cells [.int .i64 (test1 c y t f).length])])) (test1 c y t f) (opCmp y.cmp) (hi y.val) t f (H.length + 3)) b (half2 (test1 c y t f) (opCmp y.cmp) (hi y.val) t f (test1 c y t f).length)) b _ .no :=
  ⟨by rw [mkSet, List.getElem?_set_self hb2], .inl rfl, mkSet_shut hs2 _⟩
 have p := part_ok (G := G) (b := b) (20 + 8 * y.arg.toNat) (hi y.mask) w h2 (by unfold half2H; split <;> simp) (addr_ok hy 20 (.inr rfl)) (by rw [e2]; omega)
 rw [mkSet_mkSet, e2] at p
 obtain ⟨R, hR⟩ : ∃ R, half2H (mkSet H b (test1 c y t f) ++ (tR b y t f ++ [some (.cells [.int .i64 (test1 c y t f).length])])) (test1 c y t f) (opCmp y.cmp) (hi y.val) t f (H.length + 3) = mkSet H b (test1 c y t f) ++ some (.cells [.ptr b 0]) :: R := by
  unfold half2H
  split
  ·exact ⟨_, rfl⟩
  ·rw [List.set_append_right _ _ (by simp), mkSet_len, show H.length + 3 - H.length = 3 by omega]
   exact ⟨_, rfl⟩
 rw [hR, mkSet_app (by simpa using h.lb), mkSet_mkSet] at p
 exact ⟨R, p⟩
theorem testM_ok [HasIns G] [HasCode G] [HasMk G] [HasCondR G] [HasCondN G] [HasDataL G] (h : Mkr H b c tk) (x : Cd) (t f : Nat) (hx : x.right = true) (hxo : x.ok) (ht : 1 ≤ t ∧ t ≤ c.length) (hf : 1 ≤ f ∧ f ≤ c.length) (hl : c.length + 13 ≤ 4096) :
  SF G 421 [.ptr b 0, .agg x.cs, .int .i64 t, .int .i64 f] H (.int .i64 (testL c x t f).length) (mkSet H b (testL c x t f)) := by
 refine SF_of HasMk.h_lower_maker_test (Nat.le_of_ble_eq_true rfl) ?_
 have hx' := hx
 simp only [Cd.right, decide_eq_true_eq] at hx'
 have hN := Not_ok (G := G) x
 rw [notC, if_pos hx] at hN
 obtain ⟨y, hy⟩ : ∃ y, y = if flipC x then ({ x with cmp := notCmp x.cmp } : Cd) else x := ⟨_, rfl⟩
 obtain ⟨t', ht'⟩ : ∃ t', t' = if flipC x then f else t := ⟨_, rfl⟩
 obtain ⟨f', hf'⟩ : ∃ f', f' = if flipC x then t else f := ⟨_, rfl⟩
 have hc : x.cmp = 0 ∨ x.cmp = 1 ∨ x.cmp = 2 ∨ x.cmp = 3 ∨ x.cmp = 4 ∨ x.cmp = 5 := by omega
 have hlo : convI .u32 (x.val : Int) = ((lo x.val : Nat) : Int) := rfl
 have hmlo : convI .u32 (x.mask : Int) = ((lo x.mask : Nat) : Int) := rfl
 have hv := shr_hi x.val hxo.2
 have hv2 : convI .u32 ((x.val / 4294967296 : Nat) : Int) = ((hi x.val : Nat) : Int) := rfl
 have hmm := shr_hi x.mask hxo.1
 have hmm2 : convI .u32 ((x.mask / 4294967296 : Nat) : Int) = ((hi x.mask : Nat) : Int) := rfl
 have wl := Low_ok (G := G) x.arg ⟨by omega, by omega⟩
 have wh := High_ok (G := G) x.arg ⟨by omega, by omega⟩
 have hF7 : (H.length + 7 ≤ H.length) = False := eq_false (by omega)
 have hF8 : (H.length + 8 ≤ H.length) = False := eq_false (by omega)
 have hF71 : (H.length + 7 ≤ H.length + 1) = False := eq_false (by omega)
 have hF81 : (H.length + 8 ≤ H.length + 1) = False := eq_false (by omega)
 have gk : ∀ (c' : List In4) (r : Heap) (k : Nat), (mkSet H b c' ++ r)[H.length + k]? = r[k]? := fun c' r k => by rw [List.getElem?_append_right (by simp), mkSet_len]; congr 1; omega
 have gk0 : ∀ (c' : List In4) (r : Heap), (mkSet H b c' ++ r)[H.length]? = r[0]? := fun c' r => gk c' r 0
 have gb : ∀ (c' : List In4) (r : Heap), (mkSet H b c' ++ r)[b]? = some (some (.cells [.vs (IL c') .no, .int .i64 0])) := fun c' r => by rw [List.getElem?_append_left (by simpa using h.lb)]; exact (h.set c').hb
 have sk : ∀ (c' : List In4) (r : Heap) (k : Nat) (x : Option Blk), (mkSet H b c' ++ r).set (H.length + k) x = mkSet H b c' ++ r.set k x := fun c' r k x => by rw [List.set_append_right _ _ (by simp), mkSet_len]; congr 1; congr 1; omega
 have gbH : ∀ (r : Heap), (H ++ r)[b]? = some (some (.cells [.vs (IL c) tk, .int .i64 0])) := fun r => by rw [List.getElem?_append_left h.lb]; exact h.hb
 have bk : ∀ (c' : List In4) (r : Heap), trunc H.length (mkSet H b c' ++ r) = mkSet H b c' := fun c' r => by have := (mkSet_shut (b := b) h.shut c').back r; rwa [mkSet_len] at this
 have hlb := h.lb
 have tb : ∀ k : Nat, (b < H.length + k) = True := fun k => eq_true (by omega)
 rcases hc with hc | hc | hc | hc | hc | hc
 ·have hfl : flipC x = false := by simp [flipC, hc]
  have hT : testL c x t f = test0 c x t f := by rw [testL, hfl]; rfl
  have p1 := part1_ok (G := G) h x t f hx ht hf hl
  obtain ⟨R, p2⟩ := part2_ok (G := G) h x t f hx ht hf hl
  have hop : opCmp x.cmp = 21 := by simp [opCmp, hc]
  rw [← hT] at p2
  simp only [tR, Cd.cs, hop] at p1 p2
  simp only [hc] at p1 p2
  simp only [List.cons_append, List.nil_append] at p2
  generalize test1 c x t f = c1 at p1 p2
  generalize testL c x t f = c2 at p2 ⊢
  simp [Cd.cs, hc, hlo, hmlo, hv, hv2, hmm, hmm2, Nat.add_assoc, hF7, hF8, hF71, hF81, -Int.natCast_ediv]
  refine callP_of wl ?_
  simp [hlo, hmlo, hv, hv2, hmm, hmm2, Nat.add_assoc, hF7, hF8, hF71, hF81, gk, gk0, gb, sk, gbH, show notCmp 1 = 0 from rfl, show notCmp 2 = 5 from rfl, show notCmp 3 = 4 from rfl, -Int.natCast_ediv, -Int.natCast_add, -Int.natCast_mul]
  refine callSF_of p1 ?_
  simp [hlo, hmlo, hv, hv2, hmm, hmm2, Nat.add_assoc, hF7, hF8, hF71, hF81, gk, gk0, gb, sk, gbH, show notCmp 1 = 0 from rfl, show notCmp 2 = 5 from rfl, show notCmp 3 = 4 from rfl, -Int.natCast_ediv, -Int.natCast_add, -Int.natCast_mul]
  refine callP_of wh ?_
  simp [hlo, hmlo, hv, hv2, hmm, hmm2, Nat.add_assoc, hF7, hF8, hF71, hF81, gk, gk0, gb, sk, gbH, show notCmp 1 = 0 from rfl, show notCmp 2 = 5 from rfl, show notCmp 3 = 4 from rfl, -Int.natCast_ediv, -Int.natCast_add, -Int.natCast_mul]
  refine callSF_of p2 ?_
  simp [hlo, hmlo, hv, hv2, hmm, hmm2, Nat.add_assoc, hF7, hF8, hF71, hF81, gk, gk0, gb, sk, gbH, show notCmp 1 = 0 from rfl, show notCmp 2 = 5 from rfl, show notCmp 3 = 4 from rfl, -Int.natCast_ediv, -Int.natCast_add, -Int.natCast_mul]
  exact bk _ _
 ·have hfl : flipC x = true := by simp [flipC, hc]
  have hnc : notCmp x.cmp = 0 := by rw [hc]; rfl
  have hT : testL c x t f = test0 c { x with cmp := notCmp x.cmp } f t := by rw [testL, if_pos hfl]
  have p1 := part1_ok (G := G) h ({ x with cmp := notCmp x.cmp } : Cd) f t (not_right hx) hf ht hl
  obtain ⟨R, p2⟩ := part2_ok (G := G) h ({ x with cmp := notCmp x.cmp } : Cd) f t (not_right hx) hf ht hl
  have hop : opCmp ({ x with cmp := notCmp x.cmp } : Cd).cmp = 21 := by simp [opCmp, hnc]
  rw [← hT] at p2
  simp only [tR, Cd.cs, hop] at p1 p2
  simp only [hnc] at p1 p2
  simp only [List.cons_append, List.nil_append] at p2
  generalize test1 c ({ x with cmp := notCmp x.cmp } : Cd) f t = c1 at p1 p2
  generalize testL c x t f = c2 at p2 ⊢
  simp [Cd.cs, hc, hlo, hmlo, hv, hv2, hmm, hmm2, Nat.add_assoc, hF7, hF8, hF71, hF81, -Int.natCast_ediv]
  refine callP_of (by simpa only [Cd.cs, hc, hnc] using hN) ?_
  simp [hlo, hmlo, hv, hv2, hmm, hmm2, Nat.add_assoc, hF7, hF8, hF71, hF81, gk, gk0, gb, sk, gbH, show notCmp 1 = 0 from rfl, show notCmp 2 = 5 from rfl, show notCmp 3 = 4 from rfl, -Int.natCast_ediv, -Int.natCast_add, -Int.natCast_mul]
  refine callP_of wl ?_
  simp [hlo, hmlo, hv, hv2, hmm, hmm2, Nat.add_assoc, hF7, hF8, hF71, hF81, gk, gk0, gb, sk, gbH, show notCmp 1 = 0 from rfl, show notCmp 2 = 5 from rfl, show notCmp 3 = 4 from rfl, -Int.natCast_ediv, -Int.natCast_add, -Int.natCast_mul]
  refine callSF_of p1 ?_
  simp [hlo, hmlo, hv, hv2, hmm, hmm2, Nat.add_assoc, hF7, hF8, hF71, hF81, gk, gk0, gb, sk, gbH, show notCmp 1 = 0 from rfl, show notCmp 2 = 5 from rfl, show notCmp 3 = 4 from rfl, -Int.natCast_ediv, -Int.natCast_add, -Int.natCast_mul]
  refine callP_of wh ?_
  simp [hlo, hmlo, hv, hv2, hmm, hmm2, Nat.add_assoc, hF7, hF8, hF71, hF81, gk, gk0, gb, sk, gbH, show notCmp 1 = 0 from rfl, show notCmp 2 = 5 from rfl, show notCmp 3 = 4 from rfl, -Int.natCast_ediv, -Int.natCast_add, -Int.natCast_mul]
  refine callSF_of p2 ?_
  simp [hlo, hmlo, hv, hv2, hmm, hmm2, Nat.add_assoc, hF7, hF8, hF71, hF81, gk, gk0, gb, sk, gbH, show notCmp 1 = 0 from rfl, show notCmp 2 = 5 from rfl, show notCmp 3 = 4 from rfl, -Int.natCast_ediv, -Int.natCast_add, -Int.natCast_mul]
  exact bk _ _
 ·have hfl : flipC x = true := by simp [flipC, hc]
  have hnc : notCmp x.cmp = 5 := by rw [hc]; rfl
  have hT : testL c x t f = test0 c { x with cmp := notCmp x.cmp } f t := by rw [testL, if_pos hfl]
  have p1 := part1_ok (G := G) h ({ x with cmp := notCmp x.cmp } : Cd) f t (not_right hx) hf ht hl
  obtain ⟨R, p2⟩ := part2_ok (G := G) h ({ x with cmp := notCmp x.cmp } : Cd) f t (not_right hx) hf ht hl
  have hop : opCmp ({ x with cmp := notCmp x.cmp } : Cd).cmp = 53 := by simp [opCmp, hnc]
  rw [← hT] at p2
  simp only [tR, Cd.cs, hop] at p1 p2
  simp only [hnc] at p1 p2
  simp only [List.cons_append, List.nil_append] at p2
  generalize test1 c ({ x with cmp := notCmp x.cmp } : Cd) f t = c1 at p1 p2
  generalize testL c x t f = c2 at p2 ⊢
  simp [Cd.cs, hc, hlo, hmlo, hv, hv2, hmm, hmm2, Nat.add_assoc, hF7, hF8, hF71, hF81, -Int.natCast_ediv]
  refine callP_of (by simpa only [Cd.cs, hc, hnc] using hN) ?_
  simp [hlo, hmlo, hv, hv2, hmm, hmm2, Nat.add_assoc, hF7, hF8, hF71, hF81, gk, gk0, gb, sk, gbH, show notCmp 1 = 0 from rfl, show notCmp 2 = 5 from rfl, show notCmp 3 = 4 from rfl, -Int.natCast_ediv, -Int.natCast_add, -Int.natCast_mul]
  refine callP_of wl ?_
  simp [hlo, hmlo, hv, hv2, hmm, hmm2, Nat.add_assoc, hF7, hF8, hF71, hF81, gk, gk0, gb, sk, gbH, show notCmp 1 = 0 from rfl, show notCmp 2 = 5 from rfl, show notCmp 3 = 4 from rfl, -Int.natCast_ediv, -Int.natCast_add, -Int.natCast_mul]
  refine callSF_of p1 ?_
  simp [hlo, hmlo, hv, hv2, hmm, hmm2, Nat.add_assoc, hF7, hF8, hF71, hF81, gk, gk0, gb, sk, gbH, show notCmp 1 = 0 from rfl, show notCmp 2 = 5 from rfl, show notCmp 3 = 4 from rfl, -Int.natCast_ediv, -Int.natCast_add, -Int.natCast_mul]
  refine callP_of wh ?_
  simp [hlo, hmlo, hv, hv2, hmm, hmm2, Nat.add_assoc, hF7, hF8, hF71, hF81, gk, gk0, gb, sk, gbH, show notCmp 1 = 0 from rfl, show notCmp 2 = 5 from rfl, show notCmp 3 = 4 from rfl, -Int.natCast_ediv, -Int.natCast_add, -Int.natCast_mul]
  refine callSF_of p2 ?_
  simp [hlo, hmlo, hv, hv2, hmm, hmm2, Nat.add_assoc, hF7, hF8, hF71, hF81, gk, gk0, gb, sk, gbH, show notCmp 1 = 0 from rfl, show notCmp 2 = 5 from rfl, show notCmp 3 = 4 from rfl, -Int.natCast_ediv, -Int.natCast_add, -Int.natCast_mul]
  exact bk _ _
 ·have hfl : flipC x = true := by simp [flipC, hc]
  have hnc : notCmp x.cmp = 4 := by rw [hc]; rfl
  have hT : testL c x t f = test0 c { x with cmp := notCmp x.cmp } f t := by rw [testL, if_pos hfl]
  have p1 := part1_ok (G := G) h ({ x with cmp := notCmp x.cmp } : Cd) f t (not_right hx) hf ht hl
  obtain ⟨R, p2⟩ := part2_ok (G := G) h ({ x with cmp := notCmp x.cmp } : Cd) f t (not_right hx) hf ht hl
  have hop : opCmp ({ x with cmp := notCmp x.cmp } : Cd).cmp = 37 := by simp [opCmp, hnc]
  rw [← hT] at p2
  simp only [tR, Cd.cs, hop] at p1 p2
  simp only [hnc] at p1 p2
  simp only [List.cons_append, List.nil_append] at p2
  generalize test1 c ({ x with cmp := notCmp x.cmp } : Cd) f t = c1 at p1 p2
  generalize testL c x t f = c2 at p2 ⊢
  simp [Cd.cs, hc, hlo, hmlo, hv, hv2, hmm, hmm2, Nat.add_assoc, hF7, hF8, hF71, hF81, -Int.natCast_ediv]
  refine callP_of (by simpa only [Cd.cs, hc, hnc] using hN) ?_
  simp [hlo, hmlo, hv, hv2, hmm, hmm2, Nat.add_assoc, hF7, hF8, hF71, hF81, gk, gk0, gb, sk, gbH, show notCmp 1 = 0 from rfl, show notCmp 2 = 5 from rfl, show notCmp 3 = 4 from rfl, -Int.natCast_ediv, -Int.natCast_add, -Int.natCast_mul]
  refine callP_of wl ?_
  simp [hlo, hmlo, hv, hv2, hmm, hmm2, Nat.add_assoc, hF7, hF8, hF71, hF81, gk, gk0, gb, sk, gbH, show notCmp 1 = 0 from rfl, show notCmp 2 = 5 from rfl, show notCmp 3 = 4 from rfl, -Int.natCast_ediv, -Int.natCast_add, -Int.natCast_mul]
  refine callSF_of p1 ?_
  simp [hlo, hmlo, hv, hv2, hmm, hmm2, Nat.add_assoc, hF7, hF8, hF71, hF81, gk, gk0, gb, sk, gbH, show notCmp 1 = 0 from rfl, show notCmp 2 = 5 from rfl, show notCmp 3 = 4 from rfl, -Int.natCast_ediv, -Int.natCast_add, -Int.natCast_mul]
  refine callP_of wh ?_
  simp [hlo, hmlo, hv, hv2, hmm, hmm2, Nat.add_assoc, hF7, hF8, hF71, hF81, gk, gk0, gb, sk, gbH, show notCmp 1 = 0 from rfl, show notCmp 2 = 5 from rfl, show notCmp 3 = 4 from rfl, -Int.natCast_ediv, -Int.natCast_add, -Int.natCast_mul]
  refine callSF_of p2 ?_
  simp [hlo, hmlo, hv, hv2, hmm, hmm2, Nat.add_assoc, hF7, hF8, hF71, hF81, gk, gk0, gb, sk, gbH, show notCmp 1 = 0 from rfl, show notCmp 2 = 5 from rfl, show notCmp 3 = 4 from rfl, -Int.natCast_ediv, -Int.natCast_add, -Int.natCast_mul]
  exact bk _ _
 ·have hfl : flipC x = false := by simp [flipC, hc]
  have hT : testL c x t f = test0 c x t f := by rw [testL, hfl]; rfl
  have p1 := part1_ok (G := G) h x t f hx ht hf hl
  obtain ⟨R, p2⟩ := part2_ok (G := G) h x t f hx ht hf hl
  have hop : opCmp x.cmp = 37 := by simp [opCmp, hc]
  rw [← hT] at p2
  simp only [tR, Cd.cs, hop] at p1 p2
  simp only [hc] at p1 p2
  simp only [List.cons_append, List.nil_append] at p2
  generalize test1 c x t f = c1 at p1 p2
  generalize testL c x t f = c2 at p2 ⊢
  simp [Cd.cs, hc, hlo, hmlo, hv, hv2, hmm, hmm2, Nat.add_assoc, hF7, hF8, hF71, hF81, -Int.natCast_ediv]
  refine callP_of wl ?_
  simp [hlo, hmlo, hv, hv2, hmm, hmm2, Nat.add_assoc, hF7, hF8, hF71, hF81, gk, gk0, gb, sk, gbH, show notCmp 1 = 0 from rfl, show notCmp 2 = 5 from rfl, show notCmp 3 = 4 from rfl, -Int.natCast_ediv, -Int.natCast_add, -Int.natCast_mul]
  refine callSF_of p1 ?_
  simp [hlo, hmlo, hv, hv2, hmm, hmm2, Nat.add_assoc, hF7, hF8, hF71, hF81, gk, gk0, gb, sk, gbH, show notCmp 1 = 0 from rfl, show notCmp 2 = 5 from rfl, show notCmp 3 = 4 from rfl, -Int.natCast_ediv, -Int.natCast_add, -Int.natCast_mul]
  refine callP_of wh ?_
  simp [hlo, hmlo, hv, hv2, hmm, hmm2, Nat.add_assoc, hF7, hF8, hF71, hF81, gk, gk0, gb, sk, gbH, show notCmp 1 = 0 from rfl, show notCmp 2 = 5 from rfl, show notCmp 3 = 4 from rfl, -Int.natCast_ediv, -Int.natCast_add, -Int.natCast_mul]
  refine callSF_of p2 ?_
  simp [hlo, hmlo, hv, hv2, hmm, hmm2, Nat.add_assoc, hF7, hF8, hF71, hF81, gk, gk0, gb, sk, gbH, show notCmp 1 = 0 from rfl, show notCmp 2 = 5 from rfl, show notCmp 3 = 4 from rfl, -Int.natCast_ediv, -Int.natCast_add, -Int.natCast_mul]
  exact bk _ _
 ·have hfl : flipC x = false := by simp [flipC, hc]
  have hT : testL c x t f = test0 c x t f := by rw [testL, hfl]; rfl
  have p1 := part1_ok (G := G) h x t f hx ht hf hl
  obtain ⟨R, p2⟩ := part2_ok (G := G) h x t f hx ht hf hl
  have hop : opCmp x.cmp = 53 := by simp [opCmp, hc]
  rw [← hT] at p2
  simp only [tR, Cd.cs, hop] at p1 p2
  simp only [hc] at p1 p2
  simp only [List.cons_append, List.nil_append] at p2
  generalize test1 c x t f = c1 at p1 p2
  generalize testL c x t f = c2 at p2 ⊢
  simp [Cd.cs, hc, hlo, hmlo, hv, hv2, hmm, hmm2, Nat.add_assoc, hF7, hF8, hF71, hF81, -Int.natCast_ediv]
  refine callP_of wl ?_
  simp [hlo, hmlo, hv, hv2, hmm, hmm2, Nat.add_assoc, hF7, hF8, hF71, hF81, gk, gk0, gb, sk, gbH, show notCmp 1 = 0 from rfl, show notCmp 2 = 5 from rfl, show notCmp 3 = 4 from rfl, -Int.natCast_ediv, -Int.natCast_add, -Int.natCast_mul]
  refine callSF_of p1 ?_
  simp [hlo, hmlo, hv, hv2, hmm, hmm2, Nat.add_assoc, hF7, hF8, hF71, hF81, gk, gk0, gb, sk, gbH, show notCmp 1 = 0 from rfl, show notCmp 2 = 5 from rfl, show notCmp 3 = 4 from rfl, -Int.natCast_ediv, -Int.natCast_add, -Int.natCast_mul]
  refine callP_of wh ?_
  simp [hlo, hmlo, hv, hv2, hmm, hmm2, Nat.add_assoc, hF7, hF8, hF71, hF81, gk, gk0, gb, sk, gbH, show notCmp 1 = 0 from rfl, show notCmp 2 = 5 from rfl, show notCmp 3 = 4 from rfl, -Int.natCast_ediv, -Int.natCast_add, -Int.natCast_mul]
  refine callSF_of p2 ?_
  simp [hlo, hmlo, hv, hv2, hmm, hmm2, Nat.add_assoc, hF7, hF8, hF71, hF81, gk, gk0, gb, sk, gbH, show notCmp 1 = 0 from rfl, show notCmp 2 = 5 from rfl, show notCmp 3 = 4 from rfl, -Int.natCast_ediv, -Int.natCast_add, -Int.natCast_mul]
  exact bk _ _
end
end Go.Ev
/- Conditions by the document: contracts. -/
namespace Go.Ev
open Go Go.RowKit
variable {G : Tbl}
set_option maxRecDepth 10000
set_option maxHeartbeats 4000000
set_option linter.unusedSimpArgs false
set_option linter.unusedVariables false
theorem CondRR_ok [HasR8 G] (c : Cd) : FP G 433 [.agg c.cs] (.bool c.right) := by
 refine FP_of HasR8.h_hurdleref08_Right (Nat.le_of_ble_eq_true rfl) ?_
 by_cases h1 : 0 ≤ c.arg
 ·by_cases h2 : c.arg ≤ 5
  ·by_cases h3 : 0 ≤ c.cmp
   ·by_cases h4 : c.cmp ≤ 5
    ·simp [Cd.cs, Cd.right, h1, h2, h3, h4]
    ·simp [Cd.cs, Cd.right, h1, h2, h3, h4]
   ·simp [Cd.cs, Cd.right, h1, h2, h3]
  ·simp [Cd.cs, Cd.right, h1, h2]
 ·simp [Cd.cs, Cd.right, h1]
end Go.Ev
/- Code of rules, of calls, of machines: plain. -/
namespace Go.Ev
open Go Go.RowKit
set_option maxRecDepth 10000
set_option maxHeartbeats 2000000
set_option linter.unusedSimpArgs false
set_option linter.unusedVariables false
def kOK (c : List In4) : Prop := ∀ y ∈ c, y.k < 4294967296
theorem near_ks {c : List In4} {t : Nat} (hl : c.length ≤ 1000100) (hk : kOK c) : kOK (nearL c t) := by
 intro y hy
 unfold nearL at hy
 split at hy
 ·exact hk y hy
 ·rcases List.mem_cons.1 hy with rfl | hy
  ·simp only; omega
  ·exact hk y hy
theorem branch_ks {c : List In4} {op : Int} {k t f : Nat} (hl : c.length ≤ 1000050) (hkk : k < 4294967296) (hk : kOK c) : kOK (branchL c op k t f) := by
 intro y hy
 rcases List.mem_cons.1 hy with rfl | hy
 ·exact hkk
 ·exact near_ks (by have := (near_grown c t).len; omega) (near_ks (by omega) hk) y hy
theorem put_ks {c : List In4} {op : Int} {k : Nat} (hkk : k < 4294967296) (hk : kOK c) : kOK (putF c op k) := by
 intro y hy
 rcases List.mem_cons.1 hy with rfl | hy
 ·exact hkk
 ·exact hk y hy
theorem test_ks {c : List In4} {x : Cd} {t f : Nat} (hk : ∀ y ∈ c, y.k < 4294967296) (hl : c.length ≤ 1000000) (hx : x.right = true) : ∀ y ∈ testL c x t f, y.k < 4294967296 := by
 have t0 : ∀ (x : Cd) (t f : Nat), x.right = true → kOK (test0 c x t f) := by
  intro x t f hx
  have hx' := hx
  simp only [Cd.right, decide_eq_true_eq] at hx'
  have g1 := (test1_grown c x t f).len
  have g2 := (test2_grown c x t f).len
  have h1 : kOK (test1 c x t f) := put_ks (by omega) (put_ks (lo_lt _) (branch_ks (by omega) (lo_lt _) hk))
  have h2 : kOK (test2 c x t f) := by
   unfold test2
   split
   ·exact h1
   ·exact branch_ks (by omega) (hi_lt _) h1
  exact put_ks (by omega) (put_ks (hi_lt _) (branch_ks (by omega) (hi_lt _) h2))
 unfold testL
 split
 ·exact t0 _ _ _ (not_right hx)
 ·exact t0 _ _ _ hx
structure Ru where
 arch : Nat
 nr : Nat
 conds : List Cd
 act : Nat
 deriving DecidableEq
structure Po where
 rules : List Ru
 dflt : Nat
 deriving DecidableEq
def Ru.fine (r : Ru) : Prop := (∀ x ∈ r.conds, x.right = true ∧ x.ok) ∧ r.arch < 4294967296 ∧ r.nr < 4294967296 ∧ r.act < 4294967296
abbrev CLb := List In4 × Nat
def condsL (o : Nat) : List Cd → CLb → CLb
 | [], s => s
 | x :: xs, s => (testL (condsL o xs s).1 x (condsL o xs s).2 o, (testL (condsL o xs s).1 x (condsL o xs s).2 o).length)
def ruleL (r : Ru) (s : CLb) : CLb := condsL s.2 r.conds (putF s.1 6 r.act, s.1.length + 1)
def rulesL : List Ru → CLb → CLb
 | [], s => s
 | r :: l, s => ruleL r (rulesL l s)
def costR : List Ru → Nat
 | [] => 0
 | r :: l => 1 + 13 * r.conds.length + costR l
def Cd.alls (d : Da) (l : List Cd) : Bool := l.all fun x => x.holds d
def judgeR (d : Da) (v0 : Nat) : List Ru → Nat
 | [] => v0
 | r :: l => if Cd.alls d r.conds then r.act else judgeR d v0 l
structure Came (c : List In4) (s : CLb) (n : Nat) : Prop where
 grown : Grown c s.1 n
 lab : 1 ≤ s.2 ∧ s.2 ≤ s.1.length
 sound : soundF c = true → c.length + n ≤ 4096 → soundF s.1 = true
 ks : kOK c → c.length + n ≤ 4096 → kOK s.1
theorem Came.mono {c : List In4} {s : CLb} {n m : Nat} (h : Came c s n) (hm : n ≤ m) : Came c s m := ⟨h.grown.mono hm, h.lab, fun a b => h.sound a (by omega), fun a b => h.ks a (by omega)⟩
theorem Came.self {c : List In4} {l : Nat} (h : 1 ≤ l ∧ l ≤ c.length) : Came c (c, l) 0 := ⟨Grown.refl c, h, fun a _ => a, fun a _ => a⟩
theorem Came.trans {c : List In4} {s t : CLb} {n m : Nat} (h : Came c s n) (k : Came s.1 t m) : Came c t (n + m) :=
 ⟨h.grown.trans k.grown, k.lab, fun a b => k.sound (h.sound a (by omega)) (by have := h.grown.len; omega), fun a b => k.ks (h.ks a (by omega)) (by have := h.grown.len; omega)⟩
theorem putF_came {c : List In4} {op : Int} {k : Nat} (h : addOk op k) (hk : k < 4294967296) : Came c (putF c op k, c.length + 1) 1 :=
 ⟨add_grown _ _ _, by simp [putF], fun a b => add_sound h a (by omega), fun a _ => put_ks hk a⟩
theorem branch_came {c : List In4} {op : Int} {k t f : Nat} (h : brOp op) (hk : k < 4294967296) (ht : 1 ≤ t ∧ t ≤ c.length) (hf : 1 ≤ f ∧ f ≤ c.length) : Came c (branchL c op k t f, (branchL c op k t f).length) 3 :=
 ⟨branch_grown _ _ _ _ _, by have := branch_pos c op k t f; simp only; omega, fun a b => branch_sound h a ht hf (by omega), fun a b => branch_ks (by omega) hk a⟩
theorem test_came {c : List In4} {x : Cd} {t f : Nat} (hx : x.right = true) (ht : 1 ≤ t ∧ t ≤ c.length) (hf : 1 ≤ f ∧ f ≤ c.length) : Came c (testL c x t f, (testL c x t f).length) 13 :=
 ⟨test_grown _ _ _ _, by have := (test_grown c x t f).len; simp only; omega, fun a b => test_sound a hx ht hf (by omega), fun a b => test_ks a (by omega) hx⟩
theorem conds_came {o : Nat} : ∀ {l : List Cd} {s : CLb}, (∀ x ∈ l, x.right = true ∧ x.ok) → (1 ≤ o ∧ o ≤ s.1.length) → (1 ≤ s.2 ∧ s.2 ≤ s.1.length) → Came s.1 (condsL o l s) (13 * l.length)
 | [], s, _, _, h => Came.self h
 | x :: l, s, hx, ho, hs => by
  have ih := conds_came (l := l) (fun y hy => hx y (by simp [hy])) ho hs
  have gl := ih.grown.len
  exact (ih.trans (test_came (hx x (by simp)).1 ih.lab ⟨ho.1, by omega⟩)).mono (by simp only [List.length_cons]; omega)
theorem conds_ind {o : Nat} {d : Da} (hd : d.ok) {v0 v1 : Nat} : ∀ {l : List Cd} {s : CLb}, (∀ x ∈ l, x.right = true ∧ x.ok) → (1 ≤ o ∧ o ≤ s.1.length) → (1 ≤ s.2 ∧ s.2 ≤ s.1.length) → Ind d s.1 o v0 → Ind d s.1 s.2 v1 →
  Ind d (condsL o l s).1 (condsL o l s).2 (if Cd.alls d l then v1 else v0)
 | [], s, _, _, _, _, h => by simpa [condsL, Cd.alls] using h
 | x :: l, s, hx, ho, hs, h0, h1 => by
  have cm := conds_came (l := l) (fun y hy => hx y (by simp [hy])) ho hs
  have ih := conds_ind hd (l := l) (fun y hy => hx y (by simp [hy])) ho hs h0 h1
  have gl := cm.grown.len
  have := test_ind (x := x) hd (hx x (by simp)).1 (hx x (by simp)).2 cm.lab ⟨ho.1, by omega⟩ ih (h0.grown cm.grown ho.2)
  have e : Cd.alls d (x :: l) = (x.holds d && Cd.alls d l) := by simp [Cd.alls]
  rw [e]
  simp only [condsL]
  cases hh : x.holds d
  ·rw [hh] at this; simpa using this
  ·rw [hh] at this; simpa using this
theorem ret_ind (d : Da) (c : List In4) (k : Nat) : Ind d (putF c 6 k) (c.length + 1) k := by
 intro s hs
 rw [show c.length + 1 = (putF c 6 k).length from rfl, sfx_all, ret_run]
theorem rules_came : ∀ {l : List Ru} {s : CLb}, (∀ r ∈ l, r.fine) → (1 ≤ s.2 ∧ s.2 ≤ s.1.length) → Came s.1 (rulesL l s) (costR l)
 | [], s, _, h => Came.self h
 | r :: l, s, hr, hs => by
  have ih := rules_came (l := l) (fun y hy => hr y (by simp [hy])) hs
  have gl := ih.grown.len
  have p := putF_came (c := (rulesL l s).1) (op := 6) (k := r.act) (.inr (.inl rfl)) (hr r (by simp)).2.2.2
  have pl := p.grown.len
  have q := conds_came (o := (rulesL l s).2) (l := r.conds) (s := (putF (rulesL l s).1 6 r.act, (rulesL l s).1.length + 1)) (hr r (by simp)).1 ⟨ih.lab.1, by have := ih.lab.2; omega⟩ p.lab
  exact ((ih.trans p).trans q).mono (by simp only [costR]; omega)
theorem rules_ind {d : Da} (hd : d.ok) {v0 : Nat} : ∀ {l : List Ru} {s : CLb}, (∀ r ∈ l, r.fine) → (1 ≤ s.2 ∧ s.2 ≤ s.1.length) → Ind d s.1 s.2 v0 → Ind d (rulesL l s).1 (rulesL l s).2 (judgeR d v0 l)
 | [], s, _, _, h => h
 | r :: l, s, hr, hs, h => by
  have cm := rules_came (l := l) (fun y hy => hr y (by simp [hy])) hs
  have ih := rules_ind hd (l := l) (fun y hy => hr y (by simp [hy])) hs h
  have p := putF_came (c := (rulesL l s).1) (op := 6) (k := r.act) (.inr (.inl rfl)) (hr r (by simp)).2.2.2
  have pl := p.grown.len
  exact conds_ind hd (o := (rulesL l s).2) (l := r.conds) (s := (putF (rulesL l s).1 6 r.act, (rulesL l s).1.length + 1)) (hr r (by simp)).1 ⟨cm.lab.1, by have := cm.lab.2; omega⟩ p.lab (ih.grown p.grown cm.lab.2) (ret_ind d _ _)
def treeL : Nat → List In4 → List (Nat × Nat) → Nat → CLb
 | 0, c, _, _ => (c, 0)
 | n + 1, c, l, o =>
  if l.length = 1 then (branchL c 21 (l.getD 0 (0, 0)).1 (l.getD 0 (0, 0)).2 o, (branchL c 21 (l.getD 0 (0, 0)).1 (l.getD 0 (0, 0)).2 o).length)
  else
   (branchL (treeL n (treeL n c (l.take (l.length / 2)) o).1 (l.drop (l.length / 2)) o).1 53 (l.getD (l.length / 2) (0, 0)).1 (treeL n (treeL n c (l.take (l.length / 2)) o).1 (l.drop (l.length / 2)) o).2 (treeL n c (l.take (l.length / 2)) o).2,
    (branchL (treeL n (treeL n c (l.take (l.length / 2)) o).1 (l.drop (l.length / 2)) o).1 53 (l.getD (l.length / 2) (0, 0)).1 (treeL n (treeL n c (l.take (l.length / 2)) o).1 (l.drop (l.length / 2)) o).2 (treeL n c (l.take (l.length / 2)) o).2).length)
def labs (c : List In4) (l : List (Nat × Nat)) : Prop := ∀ e ∈ l, 1 ≤ e.2 ∧ e.2 ≤ c.length
theorem labs.grown {a b : List In4} {n : Nat} {l : List (Nat × Nat)} (h : labs a l) (g : Grown a b n) : labs b l := fun e he => ⟨(h e he).1, by have := g.len; have := (h e he).2; omega⟩
theorem tree_came {o : Nat} : ∀ (n : Nat) {c : List In4} {l : List (Nat × Nat)}, l ≠ [] → l.length ≤ n → labs c l → (∀ e ∈ l, e.1 < 4294967296) → (1 ≤ o ∧ o ≤ c.length) → Came c (treeL n c l o) (6 * l.length - 3)
 | 0, c, l, hne, hn, _, _, _ => absurd (List.length_eq_zero_iff.1 (by omega)) hne
 | n + 1, c, l, hne, hn, hl, hk, ho => by
  have hpos : 0 < l.length := List.length_pos_iff.2 hne
  unfold treeL
  split
  ·rename_i h1
   have hg : l.getD 0 (0, 0) ∈ l := by rw [List.getD, List.getElem?_eq_getElem (by omega)]; exact List.getElem_mem _
   exact (branch_came (.inl rfl) (hk _ hg) (hl _ hg) ho).mono (by omega)
  ·rename_i h1
   have l1 : (l.take (l.length / 2)).length = l.length / 2 := by rw [List.length_take]; omega
   have l2 : (l.drop (l.length / 2)).length = l.length - l.length / 2 := by rw [List.length_drop]
   have n1 : l.take (l.length / 2) ≠ [] := by intro e; rw [e] at l1; simp at l1; omega
   have n2 : l.drop (l.length / 2) ≠ [] := by intro e; rw [e] at l2; simp at l2; omega
   have i1 := tree_came n (c := c) (l := l.take (l.length / 2)) n1 (by omega) (fun e he => hl e (List.mem_of_mem_take he)) (fun e he => hk e (List.mem_of_mem_take he)) ho
   have g1 := i1.grown.len
   have i2 := tree_came n (c := (treeL n c (l.take (l.length / 2)) o).1) (l := l.drop (l.length / 2)) n2 (by omega) ((show labs c _ from fun e he => hl e (List.mem_of_mem_drop he)).grown i1.grown) (fun e he => hk e (List.mem_of_mem_drop he)) ⟨ho.1, by omega⟩
   have g2 := i2.grown.len
   have hg : l.getD (l.length / 2) (0, 0) ∈ l := by rw [List.getD, List.getElem?_eq_getElem (by omega)]; exact List.getElem_mem _
   have b := branch_came (c := (treeL n (treeL n c (l.take (l.length / 2)) o).1 (l.drop (l.length / 2)) o).1) (op := 53) (k := (l.getD (l.length / 2) (0, 0)).1) (.inr (.inr rfl)) (hk _ hg) i2.lab ⟨i1.lab.1, by have := i1.lab.2; omega⟩
   exact ((i1.trans i2).trans b).mono (by rw [l1, l2]; omega)
def lookN (v0 : Nat) (vs : Nat → Nat) (a : Nat) (l : List (Nat × Nat)) : Nat := if a ∈ l.map (·.1) then vs a else v0
theorem tree_dep {o : Nat} {d : Da} {a v0 : Nat} {vs : Nat → Nat} : ∀ (n : Nat) {c : List In4} {l : List (Nat × Nat)}, l ≠ [] → l.length ≤ n → labs c l → (∀ e ∈ l, e.1 < 4294967296) → (1 ≤ o ∧ o ≤ c.length) → (l.map (·.1)).Pairwise (· < ·) →
  Ind d c o v0 → (∀ e ∈ l, Ind d c e.2 (vs e.1)) → Dep d (treeL n c l o).1 (treeL n c l o).2 a (lookN v0 vs a l)
 | 0, c, l, hne, hn, _, _, _, _, _, _ => absurd (List.length_eq_zero_iff.1 (by omega)) hne
 | n + 1, c, l, hne, hn, hl, hk, ho, hp, h0, hv => by
  have hpos : 0 < l.length := List.length_pos_iff.2 hne
  unfold treeL
  split
  ·rename_i h1
   obtain ⟨e, rfl⟩ := List.length_eq_one_iff.1 h1
   have he : [e].getD 0 (0, 0) = e := rfl
   rw [he]
   intro s hs ha
   simp only
   rw [sfx_all, branch_run (.inl rfl) (hl e (by simp)) ho]
   simp only [takeN, if_true, ha, lookN, List.map_cons, List.map_nil, List.mem_singleton]
   by_cases q : a = e.1
   ·subst q; simp; exact hv e (by simp) s hs
   ·simp [q]; exact h0 s hs
  ·rename_i h1
   have l1 : (l.take (l.length / 2)).length = l.length / 2 := by rw [List.length_take]; omega
   have l2 : (l.drop (l.length / 2)).length = l.length - l.length / 2 := by rw [List.length_drop]
   have n1 : l.take (l.length / 2) ≠ [] := by intro e; rw [e] at l1; simp at l1; omega
   have n2 : l.drop (l.length / 2) ≠ [] := by intro e; rw [e] at l2; simp at l2; omega
   have lb1 : labs c (l.take (l.length / 2)) := fun e he => hl e (List.mem_of_mem_take he)
   have lb2 : labs c (l.drop (l.length / 2)) := fun e he => hl e (List.mem_of_mem_drop he)
   have k1 : ∀ e ∈ l.take (l.length / 2), e.1 < 4294967296 := fun e he => hk e (List.mem_of_mem_take he)
   have k2 : ∀ e ∈ l.drop (l.length / 2), e.1 < 4294967296 := fun e he => hk e (List.mem_of_mem_drop he)
   have c1 := tree_came n (c := c) (l := l.take (l.length / 2)) n1 (by omega) lb1 k1 ho
   have g1 := c1.grown.len
   have c2 := tree_came n (c := (treeL n c (l.take (l.length / 2)) o).1) (l := l.drop (l.length / 2)) n2 (by omega) (lb2.grown c1.grown) k2 ⟨ho.1, by omega⟩
   have g2 := c2.grown.len
   obtain ⟨k, hkq⟩ : ∃ k, k = l[l.length / 2]'(by omega) := ⟨_, rfl⟩
   have hkd : l.getD (l.length / 2) (0, 0) = k := by rw [List.getD, List.getElem?_eq_getElem (by omega), hkq]; rfl
   have hsp : l.map (·.1) = (l.take (l.length / 2)).map (·.1) ++ (l.drop (l.length / 2)).map (·.1) := by rw [← List.map_append, List.take_append_drop]
   have hdc : l.drop (l.length / 2) = k :: l.drop (l.length / 2 + 1) := by rw [List.drop_eq_getElem_cons (by omega), hkq]
   have hp' := hp
   rw [hsp, List.pairwise_append] at hp'
   obtain ⟨p1, p2, p3⟩ := hp'
   have i1 := tree_dep (a := a) n (c := c) (l := l.take (l.length / 2)) n1 (by omega) lb1 k1 ho p1 h0 (fun e he => hv e (List.mem_of_mem_take he))
   have i2 := tree_dep (a := a) n (c := (treeL n c (l.take (l.length / 2)) o).1) (l := l.drop (l.length / 2)) n2 (by omega) (lb2.grown c1.grown) k2 ⟨ho.1, by omega⟩ p2 (h0.grown c1.grown ho.2)
    (fun e he => (hv e (List.mem_of_mem_drop he)).grown c1.grown (lb2 e he).2)
   have i1' := i1.grown c2.grown c1.lab.2
   rw [hkd]
   intro s hs ha
   simp only
   rw [sfx_all, branch_run (.inr (.inr rfl)) c2.lab ⟨c1.lab.1, by have := c1.lab.2; omega⟩]
   simp only [takeN, show ((53 : Int) = 21) = False by simp, show ((53 : Int) = 37) = False by simp, if_false, ha]
   have hkm : k.1 ∈ (l.drop (l.length / 2)).map (·.1) := by rw [hdc]; simp
   by_cases q : k.1 ≤ a
   ·simp only [q, decide_true, if_true]
    rw [i2 s hs ha]
    have hna : a ∉ (l.take (l.length / 2)).map (·.1) := fun hm => by have := p3 a hm k.1 hkm; omega
    unfold lookN
    rw [hsp]
    simp only [List.mem_append, hna, false_or]
   ·simp only [q, decide_false, Bool.false_eq_true, if_false]
    rw [i1' s hs ha]
    have hna : a ∉ (l.drop (l.length / 2)).map (·.1) := fun hm => by
     rw [hdc, List.map_cons, List.pairwise_cons] at p2
     rw [hdc, List.map_cons] at hm
     rcases List.mem_cons.1 hm with e | hm
     ·omega
     ·have := p2.1 a hm; omega
    unfold lookN
    rw [hsp]
    simp only [List.mem_append, hna, or_false]
end Go.Ev
/- A policy's code: plain. -/
namespace Go.Ev
open Go Go.RowKit
set_option maxRecDepth 10000
set_option maxHeartbeats 2000000
set_option linter.unusedSimpArgs false
set_option linter.unusedVariables false
def addNew (l : List Nat) (a : Nat) : List Nat := if a ∈ l then l else l ++ [a]
def firsts (l : List Nat) : List Nat := l.foldl addNew []
theorem firsts_snoc (l : List Nat) (a : Nat) : firsts (l ++ [a]) = addNew (firsts l) a := by simp [firsts, List.foldl_append]
theorem foldNew_mem (a : Nat) : ∀ (l acc : List Nat), a ∈ l.foldl addNew acc ↔ a ∈ acc ∨ a ∈ l
 | [], acc => by simp
 | b :: l, acc => by
  rw [List.foldl_cons, foldNew_mem a l]
  unfold addNew
  split
  ·rename_i h
   rw [List.mem_cons]
   constructor
   ·rintro (h1 | h1)
    ·exact .inl h1
    ·exact .inr (.inr h1)
   ·rintro (h1 | rfl | h1)
    ·exact .inl h1
    ·exact .inl h
    ·exact .inr h1
  ·simp [or_assoc]
theorem firsts_mem (l : List Nat) (a : Nat) : a ∈ firsts l ↔ a ∈ l := by rw [firsts, foldNew_mem]; simp
theorem foldNew_nodup : ∀ (l acc : List Nat), acc.Nodup → (l.foldl addNew acc).Nodup
 | [], acc, h => h
 | b :: l, acc, h => by
  rw [List.foldl_cons]
  refine foldNew_nodup l _ ?_
  unfold addNew
  split
  ·exact h
  ·rename_i hn
   rw [List.nodup_append]
   exact ⟨h, by simp, fun x hx y hy e => hn (by rw [List.mem_singleton] at hy; rw [← hy, ← e]; exact hx)⟩
theorem firsts_nodup (l : List Nat) : (firsts l).Nodup := foldNew_nodup l [] (by simp)
theorem foldNew_len : ∀ (l acc : List Nat), (l.foldl addNew acc).length ≤ acc.length + l.length
 | [], acc => by simp
 | b :: l, acc => by
  rw [List.foldl_cons]
  have := foldNew_len l (addNew acc b)
  have h2 : (addNew acc b).length ≤ acc.length + 1 := by unfold addNew; split <;> simp
  simp only [List.length_cons]; omega
def insS (x : Nat) (l : List Nat) : List Nat := l.takeWhile (fun y => decide (y ≤ x)) ++ x :: l.dropWhile (fun y => decide (y ≤ x))
def sortS (l : List Nat) : List Nat := l.foldl (fun out x => insS x out) []
theorem insS_perm (x : Nat) (l : List Nat) : (insS x l).Perm (x :: l) := by
 unfold insS
 refine List.perm_middle.trans ?_
 rw [List.takeWhile_append_dropWhile]
theorem foldS_perm : ∀ (l out : List Nat), (l.foldl (fun out x => insS x out) out).Perm (out ++ l)
 | [], out => by simp
 | x :: l, out => by
  rw [List.foldl_cons]
  refine (foldS_perm l _).trans ?_
  refine ((insS_perm x out).append_right l).trans ?_
  rw [List.cons_append]
  exact List.perm_middle.symm
theorem sortS_perm (l : List Nat) : (sortS l).Perm l := by have := foldS_perm l []; simpa [sortS] using this
theorem drop_gt (x : Nat) : ∀ {l : List Nat}, l.Pairwise (· ≤ ·) → ∀ y ∈ l.dropWhile (fun y => decide (y ≤ x)), x ≤ y
 | [], _, y, hy => by simp at hy
 | b :: l, h, y, hy => by
  rw [List.dropWhile_cons] at hy
  split at hy
  ·exact drop_gt x (List.pairwise_cons.1 h).2 y hy
  ·rename_i hb
   simp only [decide_eq_true_eq] at hb
   rcases List.mem_cons.1 hy with rfl | hy
   ·omega
   ·have := (List.pairwise_cons.1 h).1 y hy; omega
theorem take_le (x : Nat) : ∀ {l : List Nat}, ∀ y ∈ l.takeWhile (fun y => decide (y ≤ x)), y ≤ x
 | [], y, hy => by simp at hy
 | b :: l, y, hy => by
  rw [List.takeWhile_cons] at hy
  split at hy
  ·rename_i hb
   simp only [decide_eq_true_eq] at hb
   rcases List.mem_cons.1 hy with rfl | hy
   ·exact hb
   ·exact take_le x y hy
  ·simp at hy
theorem insS_sorted (x : Nat) {l : List Nat} (h : l.Pairwise (· ≤ ·)) : (insS x l).Pairwise (· ≤ ·) := by
 have h' := h
 rw [← List.takeWhile_append_dropWhile (p := fun y => decide (y ≤ x)) (l := l), List.pairwise_append] at h'
 obtain ⟨h1, h2, h3⟩ := h'
 unfold insS
 rw [List.pairwise_append, List.pairwise_cons]
 refine ⟨h1, ⟨drop_gt x h, h2⟩, fun a ha b hb => ?_⟩
 rcases List.mem_cons.1 hb with rfl | hb
 ·exact take_le _ a ha
 ·exact h3 a ha b hb
theorem foldS_sorted : ∀ (l out : List Nat), out.Pairwise (· ≤ ·) → (l.foldl (fun out x => insS x out) out).Pairwise (· ≤ ·)
 | [], out, h => h
 | x :: l, out, h => foldS_sorted l _ (insS_sorted x h)
theorem sortS_strict {l : List Nat} (h : l.Nodup) : (sortS l).Pairwise (· < ·) := by
 have h1 := foldS_sorted l [] List.Pairwise.nil
 have h2 : (sortS l).Nodup := (sortS_perm l).nodup_iff.2 h
 refine List.Pairwise.imp₂ ?_ h1 h2
 intro a b h3 h4
 exact Nat.lt_of_le_of_ne h3 h4
def nrsOf (rs : List Ru) (a : Nat) : List Nat := firsts ((rs.filter fun r => decide (r.arch = a)).map (·.nr))
def archsOf (rs : List Ru) : List Nat := firsts (rs.map (·.arch))
def rulesAt (rs : List Ru) (a n : Nat) : List Ru := rs.filter fun r => decide (r.arch = a ∧ r.nr = n)
def entsL (R : Nat → List Ru) (o : Nat) : List Nat → List In4 → List In4 × List (Nat × Nat)
 | [], c => (c, [])
 | n :: l, c => ((entsL R o l (rulesL (R n) (c, o)).1).1, (n, (rulesL (R n) (c, o)).2) :: (entsL R o l (rulesL (R n) (c, o)).1).2)
def archC (rs : List Ru) (o a : Nat) (c : List In4) : List In4 :=
 putF (treeL (entsL (rulesAt rs a) o (sortS (nrsOf rs a)) c).2.length (entsL (rulesAt rs a) o (sortS (nrsOf rs a)) c).1 (entsL (rulesAt rs a) o (sortS (nrsOf rs a)) c).2 o).1 32 0
def rootsL (rs : List Ru) (o : Nat) : List Nat → List In4 → List In4 × List (Nat × Nat)
 | [], c => (c, [])
 | a :: l, c => ((rootsL rs o l (archC rs o a c)).1, (a, (archC rs o a c).length) :: (rootsL rs o l (archC rs o a c)).2)
def chainL : List (Nat × Nat) → CLb → CLb
 | [], s => s
 | x :: l, s => chainL l (branchL s.1 21 x.1 x.2 s.2, (branchL s.1 21 x.1 x.2 s.2).length)
def lowerL (p : Po) : List In4 :=
 if (rootsL p.rules 1 (archsOf p.rules) (putF [] 6 p.dflt)).2 = [] then (chainL (rootsL p.rules 1 (archsOf p.rules) (putF [] 6 p.dflt)).2 ((rootsL p.rules 1 (archsOf p.rules) (putF [] 6 p.dflt)).1, 1)).1
 else putF (chainL (rootsL p.rules 1 (archsOf p.rules) (putF [] 6 p.dflt)).2 ((rootsL p.rules 1 (archsOf p.rules) (putF [] 6 p.dflt)).1, 1)).1 32 4
def wsum (w : Ru → Nat) : List Ru → Nat
 | [] => 0
 | r :: l => w r + wsum w l
def costW (r : Ru) : Nat := 1 + 13 * r.conds.length
theorem costR_w : ∀ l : List Ru, costR l = wsum costW l
 | [] => rfl
 | r :: l => by rw [costR, wsum, costR_w l, costW]
def sumF {α : Type} (g : α → Nat) : List α → Nat
 | [] => 0
 | x :: l => g x + sumF g l
theorem sumF_one (g : Nat → Nat) (k c : Nat) : ∀ {l : List Nat}, l.Nodup → sumF (fun n => (if k = n then c else 0) + g n) l ≤ c + sumF g l
 | [], _ => by simp [sumF]
 | x :: l, h => by
  rw [List.nodup_cons] at h
  simp only [sumF]
  by_cases e : k = x
  ·subst e
   have hz : ∀ {l : List Nat}, k ∉ l → sumF (fun n => (if k = n then c else 0) + g n) l = sumF g l := by
    intro l
    induction l with
    | nil => intro _; rfl
    | cons y l ih =>
     intro hn
     simp only [List.mem_cons, not_or] at hn
     simp only [sumF, if_neg hn.1, ih hn.2, Nat.zero_add]
   rw [hz h.1, if_pos rfl]; omega
  ·have ih := sumF_one g k c h.2
   rw [if_neg e]; omega
theorem sumF_le {α : Type} {f g : α → Nat} : ∀ {l : List α}, (∀ x ∈ l, f x ≤ g x) → sumF f l ≤ sumF g l
 | [], _ => Nat.le_refl _
 | x :: l, h => by
  have := sumF_le (l := l) fun y hy => h y (by simp [hy])
  have := h x (by simp)
  simp only [sumF]; omega
theorem sumF_congr {α : Type} {f g : α → Nat} : ∀ {l : List α}, (∀ x ∈ l, f x = g x) → sumF f l = sumF g l
 | [], _ => rfl
 | x :: l, h => by simp only [sumF, h x (by simp), sumF_congr (l := l) fun y hy => h y (by simp [hy])]
theorem parts_le (w : Ru → Nat) (key : Ru → Nat) {l : List Nat} (hl : l.Nodup) : ∀ rs : List Ru, sumF (fun n => wsum w (rs.filter fun r => decide (key r = n))) l ≤ wsum w rs
 | [] => by
  have : ∀ l : List Nat, sumF (fun n => wsum w ([].filter fun r => decide (key r = n))) l = 0 := by
   intro l; induction l with
   | nil => rfl
   | cons x l ih => simp only [sumF, ih]; rfl
  rw [this]; exact Nat.zero_le _
 | r :: rs => by
  have ih := parts_le w key hl rs
  have e : ∀ n, wsum w ((r :: rs).filter fun r => decide (key r = n)) = (if key r = n then w r else 0) + wsum w (rs.filter fun r => decide (key r = n)) := by
   intro n
   rw [List.filter_cons]
   by_cases h : key r = n <;> simp [h, wsum]
  rw [sumF_congr fun n _ => e n]
  have := sumF_one (fun n => wsum w (rs.filter fun r => decide (key r = n))) (key r) (w r) hl
  simp only [wsum]; omega
theorem rulesAt_eq (rs : List Ru) (a n : Nat) : rulesAt rs a n = (rs.filter fun r => decide (r.arch = a)).filter fun r => decide (r.nr = n) := by
 rw [List.filter_filter]
 unfold rulesAt
 congr 1
 funext r
 rw [Bool.eq_iff_iff]; simp [and_comm]
theorem nrsOf_len (rs : List Ru) (a : Nat) : (nrsOf rs a).length ≤ wsum (fun _ => 1) (rs.filter fun r => decide (r.arch = a)) := by
 have h : ∀ l : List Ru, wsum (fun _ => 1) l = l.length := by
  intro l; induction l with
  | nil => rfl
  | cons x l ih => simp only [wsum, ih, List.length_cons]; omega
 rw [h]
 have := foldNew_len ((rs.filter fun r => decide (r.arch = a)).map (·.nr)) []
 simpa [nrsOf, firsts] using this
section
variable {rs : List Ru} {o : Nat}
def costE (R : Nat → List Ru) (l : List Nat) : Nat := sumF (fun n => costR (R n)) l
theorem ents_came {R : Nat → List Ru} : ∀ {l : List Nat} {c : List In4}, (∀ n ∈ l, ∀ r ∈ R n, r.fine) → (1 ≤ o ∧ o ≤ c.length) → Came c ((entsL R o l c).1, o) (costE R l) ∧ labs (entsL R o l c).1 (entsL R o l c).2 ∧ (entsL R o l c).2.map (·.1) = l
 | [], c, _, h => ⟨Came.self h, by intro e he; simp [entsL] at he, rfl⟩
 | n :: l, c, hr, ho => by
  have c1 := rules_came (l := R n) (s := (c, o)) (hr n (by simp)) ho
  have g1 := c1.grown.len
  obtain ⟨i1, i2, i3⟩ := ents_came (l := l) (c := (rulesL (R n) (c, o)).1) (fun m hm => hr m (by simp [hm])) ⟨ho.1, by have := ho.2; simp only at g1; omega⟩
  have g2 := i1.grown.len
  refine ⟨⟨(c1.grown.trans i1.grown).mono (by simp [costE, sumF]), i1.lab, fun a b => i1.sound (c1.sound a (by simp only [costE, sumF] at b; simp only; omega)) (by simp only [costE, sumF] at b ⊢; simp only at g1; omega),
   fun a b => i1.ks (c1.ks a (by simp only [costE, sumF] at b; simp only; omega)) (by simp only [costE, sumF] at b ⊢; simp only at g1; omega)⟩, ?_, by simp only [entsL, List.map_cons, i3]⟩
  intro e he
  simp only [entsL, List.mem_cons] at he ⊢
  rcases he with rfl | he
  ·exact ⟨c1.lab.1, by have := c1.lab.2; simp only at g2 ⊢; omega⟩
  ·exact i2 e he
theorem ents_ind {R : Nat → List Ru} {d : Da} (hd : d.ok) {v0 : Nat} : ∀ {l : List Nat} {c : List In4}, (∀ n ∈ l, ∀ r ∈ R n, r.fine) → (1 ≤ o ∧ o ≤ c.length) → Ind d c o v0 → ∀ e ∈ (entsL R o l c).2, Ind d (entsL R o l c).1 e.2 (judgeR d v0 (R e.1))
 | [], c, _, _, _, e, he => by simp [entsL] at he
 | n :: l, c, hr, ho, h0, e, he => by
  have c1 := rules_came (l := R n) (s := (c, o)) (hr n (by simp)) ho
  have g1 := c1.grown.len
  have ho1 : 1 ≤ o ∧ o ≤ (rulesL (R n) (c, o)).1.length := ⟨ho.1, by have := ho.2; simp only at g1; omega⟩
  obtain ⟨i1, i2, i3⟩ := ents_came (R := R) (l := l) (c := (rulesL (R n) (c, o)).1) (fun m hm => hr m (by simp [hm])) ho1
  have ih := ents_ind hd (R := R) (l := l) (c := (rulesL (R n) (c, o)).1) (fun m hm => hr m (by simp [hm])) ho1 (h0.grown c1.grown ho.2)
  simp only [entsL, List.mem_cons] at he ⊢
  rcases he with rfl | he
  ·exact (rules_ind hd (l := R n) (s := (c, o)) (hr n (by simp)) ho h0).grown i1.grown c1.lab.2
  ·exact ih e he
theorem ents_len {R : Nat → List Ru} {l : List Nat} {c : List In4} (h : (entsL R o l c).2.map (·.1) = l) : (entsL R o l c).2.length = l.length := by rw [← List.length_map (f := (·.1)), h]
def costA (rs : List Ru) (a : Nat) : Nat := costE (rulesAt rs a) (sortS (nrsOf rs a)) + 6 * (nrsOf rs a).length
theorem sortS_mem {l : List Nat} {x : Nat} : x ∈ sortS l ↔ x ∈ l := (sortS_perm l).mem_iff
theorem nrs_ne {a : Nat} (h : a ∈ archsOf rs) : nrsOf rs a ≠ [] := by
 rw [archsOf, firsts_mem, List.mem_map] at h
 obtain ⟨r, hr, rfl⟩ := h
 intro e
 have : r.nr ∈ nrsOf rs r.arch := by
  rw [nrsOf, firsts_mem, List.mem_map]
  exact ⟨r, List.mem_filter.2 ⟨hr, by simp⟩, rfl⟩
 rw [e] at this; simp at this
theorem nrs_fine (hf : ∀ r ∈ rs, r.fine) {a n : Nat} (h : n ∈ nrsOf rs a) : n < 4294967296 := by
 rw [nrsOf, firsts_mem, List.mem_map] at h
 obtain ⟨r, hr, rfl⟩ := h
 exact (hf r (List.mem_filter.1 hr).1).2.2.1
theorem at_fine (hf : ∀ r ∈ rs, r.fine) {a n : Nat} : ∀ r ∈ rulesAt rs a n, r.fine := fun r hr => hf r (List.mem_filter.1 hr).1
theorem arch_came (hf : ∀ r ∈ rs, r.fine) {a : Nat} (ha : a ∈ archsOf rs) {c : List In4} (ho : 1 ≤ o ∧ o ≤ c.length) : Came c (archC rs o a c, (archC rs o a c).length) (costA rs a) := by
 obtain ⟨i1, i2, i3⟩ := ents_came (R := rulesAt rs a) (l := sortS (nrsOf rs a)) (c := c) (fun _ _ => at_fine hf) ho
 have hne : (entsL (rulesAt rs a) o (sortS (nrsOf rs a)) c).2 ≠ [] := by
  intro e
  rw [e] at i3
  have h0 := (sortS_perm (nrsOf rs a)).length_eq
  rw [← i3] at h0
  exact nrs_ne ha (List.length_eq_zero_iff.1 (by simpa using h0.symm))
 have hl := ents_len i3
 rw [(sortS_perm _).length_eq] at hl
 have hp : 0 < (nrsOf rs a).length := List.length_pos_iff.2 (nrs_ne ha)
 have t := tree_came (o := o) _ hne (Nat.le_refl _) i2 (fun e he => nrs_fine hf (a := a) (sortS_mem.1 (by rw [← i3]; exact List.mem_map.2 ⟨e, he, rfl⟩))) i1.lab
 have p := putF_came (c := (treeL (entsL (rulesAt rs a) o (sortS (nrsOf rs a)) c).2.length (entsL (rulesAt rs a) o (sortS (nrsOf rs a)) c).1 (entsL (rulesAt rs a) o (sortS (nrsOf rs a)) c).2 o).1) (op := 32) (k := 0) (.inr (.inr ⟨rfl, by decide, by decide⟩)) (by decide)
 exact ((i1.trans t).trans p).mono (by unfold costA; omega)
theorem tree_lab (n : Nat) (c : List In4) (l : List (Nat × Nat)) : (treeL (n + 1) c l o).2 = (treeL (n + 1) c l o).1.length := by
 unfold treeL
 split <;> rfl
theorem word0 (d : Da) : (wordS d 0).1 = d.nr ∧ (wordS d 4).1 = d.arch := by
 constructor <;> simp [wordS, wordsD]
theorem at_none {a n : Nat} (h : n ∉ nrsOf rs a) : rulesAt rs a n = [] := by
 rw [rulesAt, List.filter_eq_nil_iff]
 intro r hr hq
 simp only [decide_eq_true_eq] at hq
 refine h ?_
 rw [nrsOf, firsts_mem, List.mem_map]
 exact ⟨r, List.mem_filter.2 ⟨hr, by simp [hq.1]⟩, hq.2⟩
theorem arch_ind (hf : ∀ r ∈ rs, r.fine) {a : Nat} (ha : a ∈ archsOf rs) {c : List In4} (ho : 1 ≤ o ∧ o ≤ c.length) {d : Da} (hd : d.ok) {v0 : Nat} (h0 : Ind d c o v0) : Ind d (archC rs o a c) (archC rs o a c).length (judgeR d v0 (rulesAt rs a d.nr)) := by
 obtain ⟨i1, i2, i3⟩ := ents_came (R := rulesAt rs a) (l := sortS (nrsOf rs a)) (c := c) (fun _ _ => at_fine hf) ho
 have ie := ents_ind hd (R := rulesAt rs a) (l := sortS (nrsOf rs a)) (c := c) (fun _ _ => at_fine hf) ho h0
 have hne : (entsL (rulesAt rs a) o (sortS (nrsOf rs a)) c).2 ≠ [] := by
  intro e
  rw [e] at i3
  have h0 := (sortS_perm (nrsOf rs a)).length_eq
  rw [← i3] at h0
  exact nrs_ne ha (List.length_eq_zero_iff.1 (by simpa using h0.symm))
 have t := tree_dep (o := o) (a := d.nr) (v0 := v0) (vs := fun n => judgeR d v0 (rulesAt rs a n)) _ hne (Nat.le_refl _) i2 (fun e he => nrs_fine hf (a := a) (sortS_mem.1 (by rw [← i3]; exact List.mem_map.2 ⟨e, he, rfl⟩))) i1.lab
  (by rw [i3]; exact sortS_strict (firsts_nodup _)) (h0.grown i1.grown ho.2) ie
 have tc := tree_came (o := o) _ hne (Nat.le_refl _) i2 (fun e he => nrs_fine hf (a := a) (sortS_mem.1 (by rw [← i3]; exact List.mem_map.2 ⟨e, he, rfl⟩))) i1.lab
 have hlab : (treeL (entsL (rulesAt rs a) o (sortS (nrsOf rs a)) c).2.length (entsL (rulesAt rs a) o (sortS (nrsOf rs a)) c).1 (entsL (rulesAt rs a) o (sortS (nrsOf rs a)) c).2 o).2 = (treeL (entsL (rulesAt rs a) o (sortS (nrsOf rs a)) c).2.length (entsL (rulesAt rs a) o (sortS (nrsOf rs a)) c).1 (entsL (rulesAt rs a) o (sortS (nrsOf rs a)) c).2 o).1.length := by
  obtain ⟨m, hm⟩ : ∃ m, (entsL (rulesAt rs a) o (sortS (nrsOf rs a)) c).2.length = m + 1 := ⟨_, (Nat.succ_pred_eq_of_pos (List.length_pos_iff.2 hne)).symm⟩
  rw [hm]; exact tree_lab _ _ _
 have hv : lookN v0 (fun n => judgeR d v0 (rulesAt rs a n)) d.nr (entsL (rulesAt rs a) o (sortS (nrsOf rs a)) c).2 = judgeR d v0 (rulesAt rs a d.nr) := by
  unfold lookN
  rw [i3]
  split
  ·rfl
  ·rename_i h
   rw [at_none (fun hm => h (sortS_mem.2 hm))]; rfl
 intro s hs
 rw [sfx_all, archC, ld_run, (word0 d).1]
 have := t { s with a := d.nr } (St.ok_a hs hd.1) rfl
 rw [hlab, sfx_all, hv] at this
 exact this
def costRt (rs : List Ru) (l : List Nat) : Nat := sumF (costA rs) l
theorem roots_came (hf : ∀ r ∈ rs, r.fine) : ∀ {l : List Nat} {c : List In4}, (∀ a ∈ l, a ∈ archsOf rs) → (1 ≤ o ∧ o ≤ c.length) → Came c ((rootsL rs o l c).1, o) (costRt rs l) ∧ labs (rootsL rs o l c).1 (rootsL rs o l c).2 ∧ (rootsL rs o l c).2.map (·.1) = l
 | [], c, _, h => ⟨Came.self h, by intro e he; simp [rootsL] at he, rfl⟩
 | a :: l, c, hl, ho => by
  have c1 := arch_came hf (hl a (by simp)) ho
  have g1 := c1.grown.len
  obtain ⟨i1, i2, i3⟩ := roots_came hf (l := l) (c := archC rs o a c) (fun m hm => hl m (by simp [hm])) ⟨ho.1, by have := ho.2; simp only at g1; omega⟩
  have g2 := i1.grown.len
  refine ⟨⟨(c1.grown.trans i1.grown).mono (by simp [costRt, sumF]), i1.lab, fun a b => i1.sound (c1.sound a (by simp only [costRt, sumF] at b; omega)) (by simp only [costRt, sumF] at b ⊢; simp only at g1; omega),
   fun a b => i1.ks (c1.ks a (by simp only [costRt, sumF] at b; omega)) (by simp only [costRt, sumF] at b ⊢; simp only at g1; omega)⟩, ?_, by simp only [rootsL, List.map_cons, i3]⟩
  intro e he
  simp only [rootsL, List.mem_cons] at he ⊢
  rcases he with rfl | he
  ·exact ⟨c1.lab.1, by have := c1.lab.2; simp only at g2 ⊢; omega⟩
  ·exact i2 e he
theorem roots_ind (hf : ∀ r ∈ rs, r.fine) {d : Da} (hd : d.ok) {v0 : Nat} : ∀ {l : List Nat} {c : List In4}, (∀ a ∈ l, a ∈ archsOf rs) → (1 ≤ o ∧ o ≤ c.length) → Ind d c o v0 → ∀ e ∈ (rootsL rs o l c).2, Ind d (rootsL rs o l c).1 e.2 (judgeR d v0 (rulesAt rs e.1 d.nr))
 | [], c, _, _, _, e, he => by simp [rootsL] at he
 | a :: l, c, hl, ho, h0, e, he => by
  have c1 := arch_came hf (hl a (by simp)) ho
  have g1 := c1.grown.len
  have ho1 : 1 ≤ o ∧ o ≤ (archC rs o a c).length := ⟨ho.1, by have := ho.2; simp only at g1; omega⟩
  obtain ⟨i1, i2, i3⟩ := roots_came hf (l := l) (c := archC rs o a c) (fun m hm => hl m (by simp [hm])) ho1
  have ih := roots_ind hf hd (l := l) (c := archC rs o a c) (fun m hm => hl m (by simp [hm])) ho1 (h0.grown c1.grown ho.2)
  simp only [rootsL, List.mem_cons] at he ⊢
  rcases he with rfl | he
  ·exact (arch_ind hf (hl a (by simp)) ho hd h0).grown i1.grown c1.lab.2
  ·exact ih e he
theorem chain_came : ∀ {l : List (Nat × Nat)} {s : CLb}, labs s.1 l → (∀ e ∈ l, e.1 < 4294967296) → (1 ≤ s.2 ∧ s.2 ≤ s.1.length) → Came s.1 (chainL l s) (3 * l.length)
 | [], s, _, _, h => Came.self h
 | x :: l, s, hl, hk, hs => by
  have b := branch_came (c := s.1) (op := 21) (k := x.1) (.inl rfl) (hk x (by simp)) (hl x (by simp)) hs
  have ih := chain_came (l := l) (s := (branchL s.1 21 x.1 x.2 s.2, (branchL s.1 21 x.1 x.2 s.2).length)) ((show labs s.1 l from fun e he => hl e (by simp [he])).grown b.grown) (fun e he => hk e (by simp [he])) b.lab
  exact (b.trans ih).mono (by simp only [List.length_cons]; omega)
theorem chain_dep {d : Da} {a : Nat} {vs : Nat → Nat} : ∀ {l : List (Nat × Nat)} {s : CLb} {v0 : Nat}, labs s.1 l → (∀ e ∈ l, e.1 < 4294967296) → (1 ≤ s.2 ∧ s.2 ≤ s.1.length) → Dep d s.1 s.2 a v0 → (∀ e ∈ l, Ind d s.1 e.2 (vs e.1)) → Dep d (chainL l s).1 (chainL l s).2 a (lookN v0 vs a l)
 | [], s, v0, _, _, _, h, _ => by simpa [chainL, lookN] using h
 | x :: l, s, v0, hl, hk, hs, h0, hv => by
  have b := branch_came (c := s.1) (op := 21) (k := x.1) (.inl rfl) (hk x (by simp)) (hl x (by simp)) hs
  have hd : Dep d (branchL s.1 21 x.1 x.2 s.2) (branchL s.1 21 x.1 x.2 s.2).length a (if a = x.1 then vs x.1 else v0) := by
   intro t ht ha
   rw [sfx_all, branch_run (.inl rfl) (hl x (by simp)) hs]
   simp only [takeN, if_true, ha]
   by_cases q : a = x.1
   ·simp [q]; exact hv x (by simp) t ht
   ·simp [q]; exact h0 t ht ha
  have lb := (show labs s.1 l from fun e he => hl e (by simp [he]))
  have ih := chain_dep (vs := vs) (l := l) (s := (branchL s.1 21 x.1 x.2 s.2, (branchL s.1 21 x.1 x.2 s.2).length)) (lb.grown b.grown) (fun e he => hk e (by simp [he])) b.lab hd (fun e he => (hv e (by simp [he])).grown b.grown (lb e he).2)
  have e : lookN v0 vs a (x :: l) = lookN (if a = x.1 then vs x.1 else v0) vs a l := by
   unfold lookN
   simp only [List.map_cons, List.mem_cons]
   by_cases q : a = x.1
   ·subst q; simp
   ·by_cases m : a ∈ l.map (·.1)
    ·rw [if_pos (.inr m), if_pos m]
    ·rw [if_neg (fun h => h.elim q m), if_neg m, if_neg q]
  rw [e]
  exact ih
end
def Po.fine (p : Po) : Prop := (∀ r ∈ p.rules, r.fine) ∧ p.dflt < 4294967296
def lowCost (p : Po) : Nat := costRt p.rules (archsOf p.rules) + 3 * (archsOf p.rules).length + 1
def judgeP (d : Da) (p : Po) : Nat := judgeR d p.dflt (rulesAt p.rules d.arch d.nr)
theorem wsum_le {w v : Ru → Nat} : ∀ {l : List Ru}, (∀ r ∈ l, w r ≤ v r) → wsum w l ≤ wsum v l
 | [], _ => Nat.le_refl _
 | r :: l, h => by
  have := wsum_le (l := l) fun y hy => h y (by simp [hy])
  have := h r (by simp)
  simp only [wsum]; omega
theorem wsum_add (w v : Ru → Nat) : ∀ l : List Ru, wsum (fun r => w r + v r) l = wsum w l + wsum v l
 | [] => rfl
 | r :: l => by simp only [wsum, wsum_add w v l]; omega
theorem wsum_const (k : Nat) : ∀ l : List Ru, wsum (fun _ => k) l = k * l.length
 | [] => rfl
 | r :: l => by simp only [wsum, wsum_const k l, List.length_cons, Nat.mul_add]; omega
theorem costA_le (rs : List Ru) (a : Nat) : costA rs a ≤ wsum (fun r => costW r + 6) (rs.filter fun r => decide (r.arch = a)) := by
 have h1 := parts_le costW (·.nr) (l := sortS (nrsOf rs a)) ((sortS_perm _).nodup_iff.2 (firsts_nodup _)) (rs.filter fun r => decide (r.arch = a))
 have h2 := nrsOf_len rs a
 rw [wsum_const] at h2
 rw [wsum_add, wsum_const]
 have e : costE (rulesAt rs a) (sortS (nrsOf rs a)) = sumF (fun n => wsum costW ((rs.filter fun r => decide (r.arch = a)).filter fun r => decide (r.nr = n))) (sortS (nrsOf rs a)) :=
  sumF_congr fun n _ => by rw [costR_w, rulesAt_eq]
 unfold costA
 rw [e]
 omega
theorem archs_len (rs : List Ru) : (archsOf rs).length ≤ rs.length := by
 have := foldNew_len (rs.map (·.arch)) []
 simpa [archsOf, firsts] using this
theorem lowCost_le {p : Po} (hl : p.rules.length ≤ 64) (hc : ∀ r ∈ p.rules, r.conds.length ≤ 4) : lowCost p ≤ 4095 := by
 have h1 := sumF_le (l := archsOf p.rules) fun a _ => costA_le p.rules a
 have h2 := parts_le (fun r => costW r + 6) (·.arch) (l := archsOf p.rules) (firsts_nodup _) p.rules
 have h3 := wsum_le (w := fun r => costW r + 6) (v := fun _ => 59) (l := p.rules) fun r hr => by have := hc r hr; simp only [costW]; omega
 rw [wsum_const] at h3
 have h4 := archs_len p.rules
 unfold lowCost costRt
 omega
def fitsB (d : Da) (r : Ru) : Bool := Cd.alls d r.conds && decide (r.arch = d.arch) && decide (r.nr = d.nr)
theorem judge_find (d : Da) (v0 : Nat) : ∀ rs : List Ru, judgeR d v0 (rulesAt rs d.arch d.nr) = ((rs.find? (fitsB d)).map (·.act)).getD v0
 | [] => rfl
 | r :: rs => by
  have ih := judge_find d v0 rs
  unfold rulesAt at ih ⊢
  rw [List.filter_cons, List.find?_cons]
  by_cases h : r.arch = d.arch ∧ r.nr = d.nr
  ·rw [if_pos (by simpa using h)]
   cases ha : Cd.alls d r.conds
   ·have hf : fitsB d r = false := by simp [fitsB, ha]
    simp only [judgeR, ha, hf]; simpa using ih
   ·have hf : fitsB d r = true := by simp [fitsB, ha, h]
    simp [judgeR, ha, hf]
  ·rw [if_neg (by simpa using h)]
   have hf : fitsB d r = false := by
    cases hb : fitsB d r with
    | false => rfl
    | true => simp only [fitsB, Bool.and_eq_true, decide_eq_true_eq] at hb; exact absurd ⟨hb.1.2, hb.2⟩ h
   rw [hf]; exact ih
theorem ret_sound (k : Nat) : soundF (putF [] 6 k) = true := by
 have hs : (shapeOf 6).map (fun r => (r.2.2.1, r.2.2.2)) = some (true, false) := by decide
 rw [Option.map_eq_some_iff] at hs
 obtain ⟨r, k5, k6⟩ := hs
 simp only [Prod.mk.injEq] at k6
 simp [soundF, putF, okAll, oneB, rightI, ruleB, endB, k5, k6.1, k6.2, isBr, isEnd]
 done
theorem chain_lab : ∀ {l : List (Nat × Nat)} {s : CLb}, l ≠ [] → (chainL l s).2 = (chainL l s).1.length
 | [], _, h => absurd rfl h
 | [x], s, _ => rfl
 | x :: y :: l, s, _ => chain_lab (l := y :: l) (by simp)
theorem lower_came {p : Po} (hf : p.fine) : Grown (putF [] 6 p.dflt) (lowerL p) (lowCost p) ∧ (lowCost p ≤ 4095 → soundF (lowerL p) = true ∧ kOK (lowerL p)) ∧ ∀ d : Da, d.ok → Ind d (lowerL p) (lowerL p).length (judgeP d p) := by
 obtain ⟨c1, c2, c3⟩ := roots_came (rs := p.rules) (o := 1) hf.1 (l := archsOf p.rules) (c := putF [] 6 p.dflt) (fun _ h => h) ⟨Nat.le_refl _, Nat.le_refl _⟩
 have hk : ∀ e ∈ (rootsL p.rules 1 (archsOf p.rules) (putF [] 6 p.dflt)).2, e.1 < 4294967296 := by
  intro e he
  have : e.1 ∈ archsOf p.rules := by rw [← c3]; exact List.mem_map.2 ⟨e, he, rfl⟩
  rw [archsOf, firsts_mem, List.mem_map] at this
  obtain ⟨r, hr, h⟩ := this
  rw [← h]; exact (hf.1 r hr).2.1
 have ch := chain_came (s := ((rootsL p.rules 1 (archsOf p.rules) (putF [] 6 p.dflt)).1, 1)) c2 hk c1.lab
 have hlen : (rootsL p.rules 1 (archsOf p.rules) (putF [] 6 p.dflt)).2.length = (archsOf p.rules).length := by rw [← List.length_map (f := (·.1)), c3]
 have h0 : ∀ d : Da, Ind d (putF [] 6 p.dflt) 1 p.dflt := fun d => ret_ind d [] p.dflt
 have hri : ∀ d : Da, d.ok → _ := fun d hd => roots_ind (rs := p.rules) (o := 1) hf.1 hd (l := archsOf p.rules) (c := putF [] 6 p.dflt) (fun _ h => h) ⟨Nat.le_refl _, Nat.le_refl _⟩ (h0 d)
 have hs0 := ret_sound p.dflt
 have hk0 : kOK (putF [] 6 p.dflt) := put_ks hf.2 (fun y hy => by simp at hy)
 have hl0 : (putF [] 6 p.dflt).length = 1 := rfl
 by_cases he : (rootsL p.rules 1 (archsOf p.rules) (putF [] 6 p.dflt)).2 = []
 ·have ha : archsOf p.rules = [] := by rw [← c3, he]; rfl
  have hr : p.rules = [] := by
   cases hrs : p.rules with
   | nil => rfl
   | cons r l =>
    have : r.arch ∈ archsOf p.rules := by rw [archsOf, firsts_mem]; exact List.mem_map.2 ⟨r, by rw [hrs]; simp, rfl⟩
    rw [ha] at this; simp at this
  have hL : lowerL p = putF [] 6 p.dflt := by unfold lowerL; rw [if_pos he, he, ha]; rfl
  rw [hL]
  refine ⟨(Grown.refl _).mono (Nat.zero_le _), fun _ => ⟨hs0, hk0⟩, fun d hd => ?_⟩
  have : judgeP d p = p.dflt := by unfold judgeP rulesAt; rw [hr]; rfl
  rw [this]; exact h0 d
 ·have pf := putF_came (c := (chainL (rootsL p.rules 1 (archsOf p.rules) (putF [] 6 p.dflt)).2 ((rootsL p.rules 1 (archsOf p.rules) (putF [] 6 p.dflt)).1, 1)).1) (op := 32) (k := 4) (.inr (.inr ⟨rfl, by decide, by decide⟩)) (by decide)
  have cm := ((c1.trans ch).trans pf).mono (show _ ≤ lowCost p by rw [hlen]; exact Nat.le_refl _)
  have hL : lowerL p = putF (chainL (rootsL p.rules 1 (archsOf p.rules) (putF [] 6 p.dflt)).2 ((rootsL p.rules 1 (archsOf p.rules) (putF [] 6 p.dflt)).1, 1)).1 32 4 := by unfold lowerL; rw [if_neg he]
  have hcl := chain_lab (s := ((rootsL p.rules 1 (archsOf p.rules) (putF [] 6 p.dflt)).1, 1)) he
  rw [hL]
  refine ⟨cm.grown, fun hc => ⟨cm.sound hs0 (by rw [hl0]; omega), cm.ks hk0 (by rw [hl0]; omega)⟩, fun d hd => ?_⟩
  have dp := chain_dep (a := d.arch) (vs := fun a => judgeR d p.dflt (rulesAt p.rules a d.nr)) c2 hk c1.lab ((h0 d).grown c1.grown (Nat.le_refl _) |>.dep d.arch) (hri d hd)
  intro s hs
  rw [sfx_all, ld_run, (word0 d).2]
  have := dp { s with a := d.arch } (St.ok_a hs hd.2.1) rfl
  rw [hcl, sfx_all] at this
  rw [this]
  unfold lookN judgeP
  rw [c3]
  split
  ·rfl
  ·rename_i h
   have : rulesAt p.rules d.arch d.nr = [] := by
    rw [rulesAt, List.filter_eq_nil_iff]
    intro r hr hq
    simp only [decide_eq_true_eq] at hq
    exact h (by rw [archsOf, firsts_mem, List.mem_map]; exact ⟨r, hr, hq.1⟩)
   rw [this]; rfl
end Go.Ev
/- Actions, and policies that may be: contracts. -/
namespace Go.Ev
open Go Go.RowKit
variable {G : Tbl}
set_option maxRecDepth 10000
set_option maxHeartbeats 4000000
set_option linter.unusedSimpArgs false
set_option linter.unusedVariables false
def actB (v : Nat) : Bool := decide (v = 0 ∨ v = 196608 ∨ v = 2147221504 ∨ v = 2147418112 ∨ 327680 ≤ v ∧ v ≤ 331775)
def actsM : List (List UInt8 × Int) := [([107, 105, 108, 108], 0), ([116, 114, 97, 112], 196608), ([108, 111, 103], 2147221504), ([97, 108, 108, 111, 119], 2147418112)]
theorem actions_ok [HasName G] : Big G (.F 394 [] [] (.mp 0) [some (.map (actsM.map fun p => (.str p.1, .int .u32 p.2)))]) := by
 refine F_of HasName.h_names_actions (Nat.le_of_ble_eq_true rfl) ?_
 simp [actsM]
def nameS (v : Nat) : List UInt8 := ((actsM.find? fun p => p.2 == (v : Int)).map (·.1)).getD []
theorem nameA_ok [HasName G] (v : Nat) : Big G (.F 393 [.mp 0, .int .u32 v] [some (.map (actsM.map fun p => (.str p.1, .int .u32 p.2)))] (.str (nameS v)) [some (.map (actsM.map fun p => (.str p.1, .int .u32 p.2)))]) :=
 .nat HasName.h_names_name rfl ⟨rfl, actsM, rfl, by decide, rfl⟩
theorem subU {v : Nat} (hv : v < 4294967296) : subI .u32 (v : Int) 327680 = (((v + 4294639616) % 4294967296 : Nat) : Int) := by
 unfold subI
 rw [IntKind.wrap, show IntKind.u32.signed = false from rfl]
 simp [IntKind.bits]
 omega
theorem Action_ok [HasWText G] [HasName G] (v : Nat) (hv : v < 4294967296) : ∃ s e, FP G 395 [.int .u32 v] (.tup [.str s, .int .i64 e]) ∧ (e == 0) = actB v := by
 by_cases hs : nameS v = []
 ·have hn : v ≠ 0 ∧ v ≠ 196608 ∧ v ≠ 2147221504 ∧ v ≠ 2147418112 := by
   refine ⟨?_, ?_, ?_, ?_⟩ <;> (rintro rfl; revert hs; decide)
  obtain ⟨k, hk⟩ : ∃ k, k = (v + 4294639616) % 4294967296 := ⟨_, rfl⟩
  have hsub := subU hv
  rw [← hk] at hsub
  by_cases h : k ≤ 4095
  ·have hT := Text_ok (G := G) k (by omega)
   refine ⟨[101, 114, 114, 111, 114, 58] ++ textN k, 0, ?_, ?_⟩
   ·refine FP_of HasName.h_names_Action (Nat.le_of_ble_eq_true rfl) ?_
    have hle : ((k : Int) ≤ 4095) = True := eq_true (by omega)
    have hlen : (6 + (textN k).length ≤ 9223372036854775807) = True := eq_true (by have := textA_len k 16; unfold textN; omega)
    have hc : convI .u64 (k : Int) = (k : Int) := IntWalk.u64_in _ ⟨by omega, by omega⟩
    simp
    refine callK_of actions_ok (by simp) ?_
    simp
    refine callS_of (nameA_ok v) ?_
    simp [hs, hsub, hle, hc]
    refine callP_of hT ?_
    simp [hlen]
   ·have : actB v = true := by simp [actB]; omega
    rw [this]; rfl
  ·refine ⟨[], 1, ?_, ?_⟩
   ·refine FP_of HasName.h_names_Action (Nat.le_of_ble_eq_true rfl) ?_
    have hle : ((k : Int) ≤ 4095) = False := eq_false (by omega)
    simp
    refine callK_of actions_ok (by simp) ?_
    simp
    refine callS_of (nameA_ok v) ?_
    simp [hs, hsub, hle]
   ·have : actB v = false := by simp [actB]; omega
    rw [this]; rfl
 ·refine ⟨nameS v, 0, ?_, ?_⟩
  ·refine FP_of HasName.h_names_Action (Nat.le_of_ble_eq_true rfl) ?_
   have hb : (nameS v).isEmpty = false := by simpa using hs
   simp
   refine callK_of actions_ok (by simp) ?_
   simp
   refine callS_of (nameA_ok v) ?_
   simp [hs, hb]
  ·have : actB v = true := by
    have key : ∀ l : List (List UInt8 × Int), ((l.find? fun p => p.2 == (v : Int)).map (·.1)).getD [] ≠ [] → ∃ p ∈ l, p.2 = (v : Int) := by
     intro l h
     cases hf : l.find? (fun p => p.2 == (v : Int)) with
     | none => rw [hf] at h; simp at h
     | some p => exact ⟨p, List.mem_of_find?_eq_some hf, by simpa using List.find?_some hf⟩
    obtain ⟨p, hp, he⟩ := key _ hs
    simp only [actsM, List.mem_cons, List.not_mem_nil, or_false] at hp
    rcases hp with rfl | rfl | rfl | rfl <;> simp only at he <;> simp [actB] <;> omega
   rw [this]; rfl
def Ru.cs (r : Ru) : List V := [.int .u32 (r.arch : Int), .int .u32 (r.nr : Int), .vs (CL r.conds) .no, .int .u32 (r.act : Int)]
def RL (l : List Ru) : List (List V) := l.map Ru.cs
@[simp] theorem RL_length (l : List Ru) : (RL l).length = l.length := by simp [RL]
theorem RL_get {l : List Ru} {i : Nat} {x : Ru} (h : l[i]? = some x) : (RL l)[i]? = some x.cs := by simp [RL, h]
def Po.cs (p : Po) : List V := [.vs (RL p.rules) .no, .int .u32 (p.dflt : Int)]
def mayB (r : Ru) : Bool := r.conds.all Cd.right && actB r.act && decide (r.conds.length ≤ 4)
def rightP (p : Po) : Bool := p.rules.all mayB && actB p.dflt && decide (p.rules.length ≤ 64)
theorem may_ok [HasWText G] [HasName G] [HasCondR G] [HasPol G] (r : Ru) (hl : r.conds.length ≤ maxLen) (ha : r.act < 4294967296) : FP G 405 [.agg r.cs] (.bool (mayB r)) := by
 refine FP_of HasPol.h_policy_may (Nat.le_of_ble_eq_true rfl) ?_
 obtain ⟨s, e, hA, he⟩ := Action_ok (G := G) r.act ha
 simp [Ru.cs]
 refine W_up r.conds.length (fun i => [(1, .ptr 0 0), (8, .vs (CL r.conds) .no), (9, .int .i64 r.conds.length), (10, .int .i64 i)]) (fun _ => [some (.cells r.cs)]) (fun i => (r.conds.take i).all Cd.right = true) ?_ ?_
 ·simp [keep_cl, trunc, Ru.cs]
 intro i hi hp
 unfold maxLen at hl
 by_cases hlt : i < r.conds.length
 ·obtain ⟨x, hx⟩ : ∃ x, x = r.conds[i] := ⟨_, rfl⟩
  have hg : r.conds[i]? = some x := by rw [List.getElem?_eq_getElem hlt, hx]
  have hgc := CL_get hg
  have hget : (CL r.conds)[i]'(by simpa using hlt) = x.cs := by rw [List.getElem?_eq_getElem (by simpa using hlt)] at hgc; exact Option.some.inj hgc
  have hr := CondR_ok (G := G) x
  simp only [Cd.cs] at hr hgc hget
  have ht : (r.conds.take (i + 1)).all Cd.right = ((r.conds.take i).all Cd.right && x.right) := by rw [List.take_add_one, hg]; simp
  simp (disch := omega) [ltT, get_in, hgc, hget, Ru.cs, hlt]
  refine callP_of hr ?_
  cases hx2 : x.right with
  | false =>
   have : mayB r = false := by
    have : r.conds.all Cd.right = false := by
     rw [List.all_eq_false]; exact ⟨x, List.mem_of_getElem? hg, by simp [hx2]⟩
    simp [mayB, this]
   simp [this]
  | true =>
   simp (disch := omega) [keep_cl, trunc, add1', hlt, Ru.cs, -Int.natCast_add]
   have : (r.conds.take (i + 1)).all Cd.right = true := by rw [ht, hp, hx2]; rfl
   simpa using this
 ·have : i = r.conds.length := by omega
  subst this
  rw [List.take_length] at hp
  have l4 : ((r.conds.length : Int) ≤ 4) = (r.conds.length ≤ 4) := by rw [eq_iff_iff]; omega
  simp (disch := omega) [ltF, keep_cl, trunc, Ru.cs]
  refine callP_of hA ?_
  cases hb : actB r.act with
  | true =>
   rw [hb] at he
   simp only [beq_iff_eq] at he
   subst he
   simp [mayB, hp, hb, l4]
  | false =>
   rw [hb] at he
   simp [mayB, hp, hb, he]
theorem polRight_ok [HasWText G] [HasName G] [HasCondR G] [HasPol G] (p : Po) (hl : p.rules.length ≤ maxLen) (hr : ∀ r ∈ p.rules, r.conds.length ≤ maxLen ∧ r.act < 4294967296) (hd : p.dflt < 4294967296) : FP G 406 [.agg p.cs] (.bool (rightP p)) := by
 refine FP_of HasPol.h_policy_Right (Nat.le_of_ble_eq_true rfl) ?_
 obtain ⟨s, e, hA, he⟩ := Action_ok (G := G) p.dflt hd
 simp [Po.cs]
 refine W_up p.rules.length (fun i => [(1, .ptr 0 0), (8, .vs (RL p.rules) .no), (9, .int .i64 p.rules.length), (10, .int .i64 i)]) (fun _ => [some (.cells p.cs)]) (fun i => (p.rules.take i).all mayB = true) ?_ ?_
 ·simp [keep_cl, trunc, Po.cs]
 intro i hi hp
 unfold maxLen at hl
 by_cases hlt : i < p.rules.length
 ·obtain ⟨x, hx⟩ : ∃ x, x = p.rules[i] := ⟨_, rfl⟩
  have hg : p.rules[i]? = some x := by rw [List.getElem?_eq_getElem hlt, hx]
  have hgc := RL_get hg
  have hget : (RL p.rules)[i]'(by simpa using hlt) = x.cs := by rw [List.getElem?_eq_getElem (by simpa using hlt)] at hgc; exact Option.some.inj hgc
  have hxm := hr x (List.mem_of_getElem? hg)
  have hm := may_ok (G := G) x hxm.1 hxm.2
  simp only [Ru.cs] at hm hgc hget
  have ht : (p.rules.take (i + 1)).all mayB = ((p.rules.take i).all mayB && mayB x) := by rw [List.take_add_one, hg]; simp
  simp (disch := omega) [ltT, get_in, hgc, hget, Po.cs, hlt]
  refine callP_of hm ?_
  cases hx2 : mayB x with
  | false =>
   have : rightP p = false := by
    have : p.rules.all mayB = false := by
     rw [List.all_eq_false]; exact ⟨x, List.mem_of_getElem? hg, by simp [hx2]⟩
    simp [rightP, this]
   simp [this]
  | true =>
   simp (disch := omega) [keep_cl, trunc, add1', hlt, Po.cs, -Int.natCast_add]
   have : (p.rules.take (i + 1)).all mayB = true := by rw [ht, hp, hx2]; rfl
   simpa using this
 ·have : i = p.rules.length := by omega
  subst this
  rw [List.take_length] at hp
  have l4 : ((p.rules.length : Int) ≤ 64) = (p.rules.length ≤ 64) := by rw [eq_iff_iff]; omega
  simp (disch := omega) [ltF, keep_cl, trunc, Po.cs]
  refine callP_of hA ?_
  cases hb : actB p.dflt with
  | true =>
   rw [hb] at he
   simp only [beq_iff_eq] at he
   subst he
   simp [rightP, hp, hb, l4]
  | false =>
   rw [hb] at he
   simp [rightP, hp, hb, he]
end Go.Ev
/- Code of rules, of a search, by a maker: contracts. -/
namespace Go.Ev
open Go Go.RowKit
variable {G : Tbl}
set_option maxRecDepth 10000
set_option maxHeartbeats 4000000
set_option linter.unusedSimpArgs false
set_option linter.unusedVariables false
section
variable {H : Heap} {b : Nat} {c : List In4}
theorem mkSet_self (h : Mkr H b c .no) : mkSet H b c = H := set_same h.hb
theorem drop_at {α : Type} {l : List α} {t : Nat} {y : α} (h : l[t]? = some y) : l.drop t = y :: l.drop (t + 1) := by
 obtain ⟨hlt, he⟩ := List.getElem?_eq_some_iff.1 h
 rw [List.drop_eq_getElem_cons hlt, he]
theorem costR_drop : ∀ (l : List Ru) (t : Nat), costR (l.drop t) ≤ costR l
 | [], t => by simp [costR]
 | r :: l, 0 => Nat.le_refl _
 | r :: l, t + 1 => by
  have := costR_drop l t
  simp only [List.drop_succ_cons, costR]; omega
theorem costR_len : ∀ l : List Ru, l.length ≤ costR l
 | [] => Nat.le_refl _
 | r :: l => by have := costR_len l; simp only [List.length_cons, costR]; omega
theorem rulesM_ok [HasIns G] [HasCode G] [HasMk G] [HasCondR G] [HasCondN G] [HasDataL G] [HasLow G] (h : Mkr H b c .no) (l : List Ru) (tk : Tk) (htk : ∀ n, H.length ≤ n → tk.cl n = tk) (o : Nat) (hl : ∀ r ∈ l, r.fine) (ho : 1 ≤ o ∧ o ≤ c.length) (hc : c.length + costR l ≤ 4096) :
  SF G 427 [.ptr b 0, .vs (RL l) tk, .int .i64 o] H (.int .i64 (rulesL l (c, o)).2) (mkSet H b (rulesL l (c, o)).1) := by
 refine SF_of HasLow.h_lower_maker_rules (Nat.le_of_ble_eq_true rfl) ?_
 have hlen := costR_len l
 have hsh : ∀ c', trunc H.length (mkSet H b c') = mkSet H b c' := fun c' => by have := (mkSet_shut (b := b) h.shut c').self; rwa [mkSet_len] at this
 have hlb := h.lb
 have htk0 := htk H.length (Nat.le_refl _)
 obtain ⟨S, hS⟩ : ∃ S : Nat → CLb, ∀ k, S k = rulesL (l.drop (l.length - k)) (c, o) := ⟨_, fun _ => rfl⟩
 have hS0 : S 0 = (c, o) := by rw [hS, Nat.sub_zero, List.drop_length]; rfl
 have hSl : S l.length = rulesL l (c, o) := by rw [hS, Nat.sub_self, List.drop_zero]
 have s0 : subI .i64 (l.length : Int) 1 = (l.length : Int) - 1 := subI64 (by omega) (by omega)
 have hself := mkSet_self h
 have hcame : ∀ k, Came c (S k) (costR l) := fun k => by
  rw [hS]
  exact (rules_came (s := (c, o)) (fun r hr => hl r (List.mem_of_mem_drop hr)) ho).mono (costR_drop _ _)
 simp [s0]
 refine W_up l.length (fun k => [(0, .ptr b 0), (1, .vs (RL l) tk), (2, .int .i64 (S k).2), (7, .int .i64 ((l.length : Int) - 1 - k))]) (fun k => mkSet H b (S k).1) (fun _ => True) ?_ ?_
 ·simp [keep_cl, hS0, hself, hlb, htk0, h.shut.self]
 intro k hk _
 by_cases hlt : k < l.length
 ·obtain ⟨t, ht⟩ : ∃ t, t = l.length - 1 - k := ⟨_, rfl⟩
  have htl : t < l.length := by omega
  obtain ⟨y, hy⟩ : ∃ y, y = l[t] := ⟨_, rfl⟩
  have hgy : l[t]? = some y := by rw [List.getElem?_eq_getElem htl, hy]
  have hgyc := RL_get hgy
  have hgety : (RL l)[t]'(by simpa using htl) = y.cs := by rw [List.getElem?_eq_getElem (by simpa using htl)] at hgyc; exact Option.some.inj hgyc
  have hyf := hl y (List.mem_of_getElem? hgy)
  have hst : S (k + 1) = ruleL y (S k) := by
   rw [hS, hS, show l.length - (k + 1) = t by omega, drop_at hgy, rulesL, show t + 1 = l.length - k by omega]
  have et : (l.length : Int) - 1 - k = (t : Int) := by omega
  have et2 : (l.length : Int) - 1 - ((k + 1 : Nat) : Int) = (t : Int) - 1 := by omega
  have s1 : subI .i64 (t : Int) 1 = (t : Int) - 1 := subI64 (by omega) (by omega)
  have hrest : (S k).1.length + (1 + 13 * y.conds.length) ≤ 4096 := by
   have c1 := rules_came (l := l.drop (l.length - k)) (s := (c, o)) (fun r hr => hl r (List.mem_of_mem_drop hr)) ho
   have g1 := c1.grown.len
   rw [← hS] at g1
   have c2 : costR (l.drop t) = 1 + 13 * y.conds.length + costR (l.drop (l.length - k)) := by rw [drop_at hgy, costR, show t + 1 = l.length - k by omega]
   have := costR_drop l t
   simp only at g1
   omega
  have hck := hcame k
  obtain ⟨⟨c1, o1⟩, hs1⟩ : ∃ s, s = S k := ⟨_, rfl⟩
  rw [← hs1] at hst hrest hck ⊢
  simp only at hrest hck
  have hm1 := h.set c1
  have wa := addM_ok (G := G) hm1 6 y.act (.inr (.inl rfl)) (by omega)
  rw [mkSet_mkSet] at wa
  have hpl : (putF c1 6 y.act).length = c1.length + 1 := rfl
  rw [hpl] at wa
  rw [et]
  have htk1 : tk.cl (mkSet H b c1).length = tk := by rw [mkSet_len]; exact htk0
  simp only [Ru.cs] at hgyc hgety
  simp (disch := omega) [ltT, get_in, hgyc, hgety, hlt]
  refine callSF_of wa ?_
  have s2 : subI .i64 (y.conds.length : Int) 1 = (y.conds.length : Int) - 1 := subI64 (by omega) (by omega)
  simp (disch := omega) [ltT, get_in, hgyc, hgety, hlt, s2, htk0]
  obtain ⟨T, hT⟩ : ∃ T : Nat → CLb, ∀ k, T k = condsL o1 (y.conds.drop (y.conds.length - k)) (putF c1 6 y.act, c1.length + 1) := ⟨_, fun _ => rfl⟩
  have hT0 : T 0 = (putF c1 6 y.act, c1.length + 1) := by rw [hT, Nat.sub_zero, List.drop_length]; rfl
  have hTl : T y.conds.length = S (k + 1) := by rw [hT, Nat.sub_self, List.drop_zero, hst]; rfl
  refine W_up y.conds.length (fun j => [(0, .ptr b 0), (1, .vs (RL l) tk), (2, .int .i64 o1), (7, .int .i64 t), (8, .int .i64 (T j).2), (9, .int .i64 ((y.conds.length : Int) - 1 - j))]) (fun j => mkSet H b (T j).1) (fun _ => True) ?_ ?_
  ·simp [keep_cl, hT0, hsh, hlb, htk0]
  intro j hj _
  by_cases hlj : j < y.conds.length
  ·obtain ⟨u, hu⟩ : ∃ u, u = y.conds.length - 1 - j := ⟨_, rfl⟩
   have hul : u < y.conds.length := by omega
   obtain ⟨z, hz⟩ : ∃ z, z = y.conds[u] := ⟨_, rfl⟩
   have hgz : y.conds[u]? = some z := by rw [List.getElem?_eq_getElem hul, hz]
   have hgzc := CL_get hgz
   have hgetz : (CL y.conds)[u]'(by simpa using hul) = z.cs := by rw [List.getElem?_eq_getElem (by simpa using hul)] at hgzc; exact Option.some.inj hgzc
   have hzf := hyf.1 z (List.mem_of_getElem? hgz)
   have hTs : T (j + 1) = (testL (T j).1 z (T j).2 o1, (testL (T j).1 z (T j).2 o1).length) := by
    rw [hT, hT, show y.conds.length - (j + 1) = u by omega, drop_at hgz, condsL, show u + 1 = y.conds.length - j by omega]
   have cj := conds_came (o := o1) (l := y.conds.drop (y.conds.length - j)) (s := (putF c1 6 y.act, c1.length + 1)) (fun x hx => hyf.1 x (List.mem_of_mem_drop hx)) ⟨hck.lab.1, by have := hck.lab.2; simp only [putF, List.length_cons] at this ⊢; omega⟩ ⟨by omega, Nat.le_refl _⟩
   rw [← hT] at cj
   have gj := cj.grown.len
   simp only [hpl, List.length_drop] at gj
   obtain ⟨⟨c2, o2⟩, hs2⟩ : ∃ s, s = T j := ⟨_, rfl⟩
   rw [← hs2] at hTs cj gj ⊢
   simp only at gj hTs
   have cl := cj.lab
   simp only at cl
   have ckl := hck.lab.2
   simp only at ckl
   have wt := testM_ok (G := G) (h.set c2) z o2 o1 hzf.1 hzf.2 cl ⟨hck.lab.1, by omega⟩ (by omega)
   rw [mkSet_mkSet] at wt
   have eu : (y.conds.length : Int) - 1 - j = (u : Int) := by omega
   have eu2 : (y.conds.length : Int) - 1 - ((j + 1 : Nat) : Int) = (u : Int) - 1 := by omega
   have s3 : subI .i64 (u : Int) 1 = (u : Int) - 1 := subI64 (by omega) (by omega)
   rw [eu]
   simp only [Cd.cs] at wt hgzc hgetz
   simp (disch := omega) [ltT, get_in, hgyc, hgety, hlt, hgzc, hgetz, hlj]
   refine callSF_of wt ?_
   simp (disch := omega) [keep_cl, hsh, hlb, htk0, s3, eu2, hTs, hlj, -Int.natCast_add]
  ·have : j = y.conds.length := by omega
   subst this
   have e0 : ((y.conds.length : Int) ≤ (y.conds.length : Int) - 1) = False := eq_false (by omega)
   simp (disch := omega) [keep_cl, hsh, hlb, htk0, s1, et2, hTl, e0, hlt, -Int.natCast_add]
 ·have : k = l.length := by omega
  subst this
  have e0 : ((l.length : Int) ≤ (l.length : Int) - 1) = False := eq_false (by omega)
  simp (disch := omega) [keep_cl, hsh, hlb, htk0, hSl, e0]
def EL (l : List (Nat × Nat)) : List (List V) := l.map fun e => [.int .u32 (e.1 : Int), .int .i64 (e.2 : Int)]
@[simp] theorem EL_length (l : List (Nat × Nat)) : (EL l).length = l.length := by simp [EL]
theorem EL_get {l : List (Nat × Nat)} {i : Nat} {x : Nat × Nat} (h : l[i]? = some x) : (EL l)[i]? = some [.int .u32 (x.1 : Int), .int .i64 (x.2 : Int)] := by simp [EL, h]
theorem EL_take (l : List (Nat × Nat)) (n : Nat) : (EL l).take n = EL (l.take n) := by simp [EL]
theorem EL_drop (l : List (Nat × Nat)) (n : Nat) : (EL l).drop n = EL (l.drop n) := by simp [EL]
theorem EL_sz (l : List (Nat × Nat)) : (∀ f ∈ EL l, f.length = 2) = True := by
 simp only [eq_iff_iff, iff_true]
 intro f hf
 simp only [EL, List.mem_map] at hf
 obtain ⟨x, _, rfl⟩ := hf
 rfl
theorem treeM_ok [HasIns G] [HasCode G] [HasMk G] [HasLow G] {o : Nat} : ∀ (n : Nat) {H : Heap} {b : Nat} {c : List In4} (h : Mkr H b c .no) (l : List (Nat × Nat)) (tk : Tk) (htk : ∀ n, H.length ≤ n → tk.cl n = tk) (hne : l ≠ []) (hn : l.length ≤ n) (hl : labs c l) (hk : ∀ e ∈ l, e.1 < 4294967296) (ho : 1 ≤ o ∧ o ≤ c.length) (hc : c.length + 6 * l.length ≤ 4096),
  SF G 426 [.ptr b 0, .vs (EL l) tk, .int .i64 o] H (.int .i64 (treeL n c l o).2) (mkSet H b (treeL n c l o).1)
 | 0, H, b, c, h, l, tk, htk, hne, hn, hl, hk, ho, hc => absurd (List.length_eq_zero_iff.1 (by omega)) hne
 | n + 1, H, b, c, h, l, tk, htk, hne, hn, hl, hk, ho, hc => by
  have hpos : 0 < l.length := List.length_pos_iff.2 hne
  have hsh : ∀ c', trunc H.length (mkSet H b c') = mkSet H b c' := fun c' => by have := (mkSet_shut (b := b) h.shut c').self; rwa [mkSet_len] at this
  have hlb := h.lb
  have htk0 := htk H.length (Nat.le_refl _)
  refine SF_of HasLow.h_lower_maker_tree (Nat.le_of_ble_eq_true rfl) ?_
  by_cases h1 : l.length = 1
  ·obtain ⟨e, rfl⟩ := List.length_eq_one_iff.1 h1
   have hT : treeL (n + 1) c [e] o = (branchL c 21 e.1 e.2 o, (branchL c 21 e.1 e.2 o).length) := by unfold treeL; rfl
   rw [hT]
   have w := branchM_ok (G := G) h 21 e.1 e.2 o (.inl rfl) (hl e (by simp)) ho (by simp at hc; omega)
   simp [EL]
   refine callSF_of w ?_
   simp [hsh]
  ·have e1 : ((l.length : Int) == 1) = false := by simp; omega
   obtain ⟨hf, hhf⟩ : ∃ hf, hf = l.length / 2 := ⟨_, rfl⟩
   have q1 : quoI .i64 (l.length : Int) 2 = (hf : Int) := by
    unfold quoI
    have h2 : ((l.length : Int).tdiv 2) = ((l.length / 2 : Nat) : Int) := rfl
    rw [h2, ← hhf]
    exact IntWalk.i64_in _ ⟨by omega, by omega⟩
   have l1 : (l.take hf).length = hf := by rw [List.length_take]; omega
   have l2 : (l.drop hf).length = l.length - hf := by rw [List.length_drop]
   have n1 : l.take hf ≠ [] := by intro e; rw [e] at l1; simp at l1; omega
   have n2 : l.drop hf ≠ [] := by intro e; rw [e] at l2; simp at l2; omega
   have lb1 : labs c (l.take hf) := fun e he => hl e (List.mem_of_mem_take he)
   have lb2 : labs c (l.drop hf) := fun e he => hl e (List.mem_of_mem_drop he)
   have k1 : ∀ e ∈ l.take hf, e.1 < 4294967296 := fun e he => hk e (List.mem_of_mem_take he)
   have k2 : ∀ e ∈ l.drop hf, e.1 < 4294967296 := fun e he => hk e (List.mem_of_mem_drop he)
   have c1 := tree_came n (c := c) (l := l.take hf) n1 (by omega) lb1 k1 ho
   have g1 := c1.grown.len
   have c2 := tree_came n (c := (treeL n c (l.take hf) o).1) (l := l.drop hf) n2 (by omega) (lb2.grown c1.grown) k2 ⟨ho.1, by omega⟩
   have g2 := c2.grown.len
   have lab1 := c1.lab
   have lab2 := c2.lab
   obtain ⟨k, hkq⟩ : ∃ k, k = l[hf]'(by omega) := ⟨_, rfl⟩
   have hkg : l[hf]? = some k := by rw [List.getElem?_eq_getElem (by omega), hkq]
   have hkd : l.getD hf (0, 0) = k := by rw [List.getD, hkg]; rfl
   have hgc := EL_get hkg
   have hgetc : (EL l)[hf]'(by simp; omega) = [.int .u32 (k.1 : Int), .int .i64 (k.2 : Int)] := by rw [List.getElem?_eq_getElem (by simp; omega)] at hgc; exact Option.some.inj hgc
   have i1 := fun tk htk => treeM_ok (o := o) n h (l.take hf) tk htk n1 (by omega) lb1 k1 ho (by omega)
   have i2 := fun tk htk => treeM_ok (o := o) n (h.set (treeL n c (l.take hf) o).1) (l.drop hf) tk (by rw [mkSet_len]; exact htk) n2 (by omega) (lb2.grown c1.grown) k2 ⟨ho.1, by omega⟩ (by omega)
   have hT : treeL (n + 1) c l o = (branchL (treeL n (treeL n c (l.take hf) o).1 (l.drop hf) o).1 53 k.1 (treeL n (treeL n c (l.take hf) o).1 (l.drop hf) o).2 (treeL n c (l.take hf) o).2,
    (branchL (treeL n (treeL n c (l.take hf) o).1 (l.drop hf) o).1 53 k.1 (treeL n (treeL n c (l.take hf) o).1 (l.drop hf) o).2 (treeL n c (l.take hf) o).2).length) := by
    conv => lhs; unfold treeL
    rw [if_neg h1, ← hhf, hkd]
   rw [hT]
   generalize treeL n (treeL n c (l.take hf) o).1 (l.drop hf) o = s2 at *
   generalize treeL n c (l.take hf) o = s1 at *
   have w := branchM_ok (G := G) ((h.set s1.1).set s2.1) 53 k.1 s2.2 s1.2 (.inr (.inr rfl)) lab2 ⟨lab1.1, by omega⟩ (by omega)
   simp only [mkSet_mkSet] at i2 w
   have b1 : (hf ≤ l.length) = True := eq_true (by omega)
   have b2 : ((0 : Int) ≤ (hf : Int)) = True := eq_true (by omega)
   have htl : (EL l).take l.length = EL l := List.take_of_length_le (by simp)
   have tke : ∀ (P : Prop) [Decidable P] n, (if P then Tk.full else Tk.no).cl n = if P then Tk.full else Tk.no := fun P _ n => by split <;> rfl
   have htd : (l.drop hf).take (l.length - hf) = l.drop hf := List.take_of_length_le (by omega)
   simp (disch := omega) [e1, q1, htk0, EL_sz, EL_take, EL_drop, b1]
   refine callSF_of (i1 _ (fun n _ => tke _ n)) ?_
   simp (disch := omega) [e1, q1, htk0, hlb, EL_sz, EL_take, EL_drop, b1, htd]
   refine callSF_of (i2 _ (fun n _ => tke _ n)) ?_
   simp (disch := omega) [e1, q1, htk0, hlb, EL_sz, EL_take, EL_drop, b1, get_in, hgc, hgetc]
   refine callSF_of w ?_
   simp [hsh]
end
end Go.Ev
/- Sorting: contract. -/
namespace Go.Ev
open Go Go.RowKit
variable {G : Tbl}
set_option maxRecDepth 10000
set_option maxHeartbeats 4000000
set_option linter.unusedSimpArgs false
set_option linter.unusedVariables false
theorem natsNil (k : IntKind) (l : List Nat) : (nats k l = []) = (l = []) := by simp [nats]
theorem idL_ok [HasLow G] (n : Nat) (H : Heap) : Big G (.F 424 [.int .u32 n] H (.int .u32 n) H) := by
 refine F_of HasLow.h_lower_Lower_1_1 (Nat.le_of_ble_eq_true rfl) ?_
 simp
theorem foldS_snoc (l : List Nat) (x : Nat) : sortS (l ++ [x]) = insS x (sortS l) := by simp [sortS, List.foldl_append]
theorem sortS_len (l : List Nat) : (sortS l).length = l.length := (sortS_perm l).length_eq
def insAt (x : Nat) (l : List Nat) : Nat := (l.takeWhile fun y => decide (y ≤ x)).length
theorem insAt_take (x : Nat) (l : List Nat) : l.take (insAt x l) = l.takeWhile (fun y => decide (y ≤ x)) := by
 have h := List.takeWhile_append_dropWhile (p := fun y => decide (y ≤ x)) (l := l)
 unfold insAt
 conv => lhs; arg 2; rw [← h]
 exact List.take_left' rfl
theorem insAt_drop (x : Nat) (l : List Nat) : l.drop (insAt x l) = l.dropWhile (fun y => decide (y ≤ x)) := by
 have h := List.takeWhile_append_dropWhile (p := fun y => decide (y ≤ x)) (l := l)
 unfold insAt
 conv => lhs; arg 2; rw [← h]
 exact List.drop_left' rfl
theorem insS_at (x : Nat) (l : List Nat) : insS x l = l.take (insAt x l) ++ x :: l.drop (insAt x l) := by rw [insAt_take, insAt_drop]; rfl
theorem insAt_le (x : Nat) (l : List Nat) : insAt x l ≤ l.length := by
 have := congrArg List.length (List.takeWhile_append_dropWhile (p := fun y => decide (y ≤ x)) (l := l))
 rw [List.length_append] at this
 unfold insAt
 omega
theorem insAt_lt {x : Nat} {l : List Nat} {j y : Nat} (h : j < insAt x l) (hy : l[j]? = some y) : y ≤ x := by
 refine take_le x (l := l) y ?_
 rw [← insAt_take]
 exact List.mem_of_getElem? (i := j) (by rw [List.getElem?_take, if_pos h]; exact hy)
theorem insAt_end {x : Nat} : ∀ {l : List Nat} {y : Nat}, l[insAt x l]? = some y → ¬ y ≤ x
 | [], y, h => by simp at h
 | b :: l, y, h => by
  by_cases hb : b ≤ x
  ·have e : insAt x (b :: l) = insAt x l + 1 := by simp [insAt, List.takeWhile_cons, hb]
   rw [e, List.getElem?_cons_succ] at h
   exact insAt_end h
  ·have e : insAt x (b :: l) = 0 := by simp [insAt, List.takeWhile_cons, hb]
   rw [e] at h
   simp at h
   omega
theorem sortedM_ok [HasLow G] {H : Heap} (hH : HShut H) (l : List Nat) (tk : Tk) (htk : ∀ n, H.length ≤ n → tk.cl n = tk) (hne : l ≠ []) (hl : l.length ≤ 1000000) :
  SF G 423 [.vs (nats .u32 l) tk, .fn 424 []] H (.vs (nats .u32 (sortS l)) .no) H := by
 refine SF_of HasLow.h_lower_sorted_uint32 (Nat.le_of_ble_eq_true rfl) ?_
 have ht := shut_trunc hH
 have hbk := hH.back
 have htk0 := htk H.length (Nat.le_refl _)
 obtain ⟨S, hS⟩ : ∃ S : Nat → List Nat, ∀ k, S k = sortS (l.take k) := ⟨_, fun _ => rfl⟩
 obtain ⟨tks, htks⟩ : ∃ tks : Nat → Tk, ∀ k, tks k = if k = 0 then .full else .no := ⟨_, fun _ => rfl⟩
 have hS0 : S 0 = [] := by rw [hS]; rfl
 have hSl : S l.length = sortS l := by rw [hS, List.take_length]
 have hSn : ∀ k, k ≤ l.length → (S k).length = k := fun k hk => by rw [hS, sortS_len, List.length_take]; omega
 simp
 refine W_up l.length (fun k => [(1, .fn 424 []), (5, .vs (nats .u32 (S k)) (tks k)), (9, .vs (nats .u32 l) tk), (10, .int .i64 l.length), (11, .int .i64 k)]) (fun _ => H) (fun _ => True) ?_ ?_
 ·simp [keep_cl, hS0, htks, htk0, hH.self]
 intro k hk _
 have hpos : 0 < l.length := List.length_pos_iff.2 hne
 have gk : ∀ (r : Heap) (k : Nat), (H ++ r)[H.length + k]? = r[k]? := fun r k => by rw [List.getElem?_append_right (by omega)]; congr 1; omega
 have gk0 : ∀ (r : Heap), (H ++ r)[H.length]? = r[0]? := fun r => gk r 0
 have hF1 : (H.length + 1 < H.length) = False := eq_false (by omega)
 by_cases hlt : k < l.length
 ·obtain ⟨x, hx⟩ : ∃ x, x = l[k] := ⟨_, rfl⟩
  have hg : l[k]? = some x := by rw [List.getElem?_eq_getElem hlt, hx]
  have hgn : (nats .u32 l)[k]? = some [.int .u32 (x : Int)] := by simp [hg]
  have hge : (nats .u32 l)[k]'(by simpa using hlt) = [.int .u32 (x : Int)] := by rw [List.getElem?_eq_getElem (by simpa using hlt)] at hgn; exact Option.some.inj hgn
  have hst : S (k + 1) = insS x (S k) := by rw [hS, hS, List.take_add_one, hg]; exact foldS_snoc _ _
  have hSk := hSn k hk
  have tkc : ∀ k n, (tks k).cl n = tks k := fun k n => by rw [htks]; split <;> rfl
  have htn : tks (k + 1) = .no := by rw [htks, if_neg (by omega)]
  obtain ⟨L, hL⟩ : ∃ L, L = S k := ⟨_, rfl⟩
  obtain ⟨q, hq⟩ : ∃ q, q = tks k := ⟨_, rfl⟩
  have hqc : ∀ n, q.cl n = q := fun n => by rw [hq]; exact tkc k n
  rw [← hL] at hst hSk ⊢
  rw [← hq]
  have hle := insAt_le x L
  simp (disch := omega) [ltT, get_in, hgn, hge, hlt]
  refine W_up (insAt x L) (fun j => [(1, .fn 424 []), (5, .vs (nats .u32 L) q), (7, .int .u32 x), (8, .int .i64 j), (9, .vs (nats .u32 l) tk), (10, .int .i64 l.length), (11, .int .i64 k)]) (fun _ => H) (fun _ => True) ?_ ?_
  ·simp [keep_cl, htk0, hH.self, hqc]
  intro j hj _
  by_cases hlj : j < L.length
  ·obtain ⟨y, hy⟩ : ∃ y, y = L[j] := ⟨_, rfl⟩
   have hgy : L[j]? = some y := by rw [List.getElem?_eq_getElem hlj, hy]
   have hgyn : (nats .u32 L)[j]? = some [.int .u32 (y : Int)] := by simp [hgy]
   have hgye : (nats .u32 L)[j]'(by simpa using hlj) = [.int .u32 (y : Int)] := by rw [List.getElem?_eq_getElem (by simpa using hlj)] at hgyn; exact Option.some.inj hgyn
   have hlj' : ((j : Int) < (L.length : Int)) = True := eq_true (by omega)
   simp (disch := omega) [hlj', get_in, hgyn, hgye, hlj]
   refine callV_of (idL_ok y H) (fun h => by simp at h) ?_
   simp [hH.self]
   refine callV_of (idL_ok x H) (fun h => by simp at h) ?_
   by_cases hyx : y ≤ x
   ·have hjn : j < insAt x L := by
     rcases Nat.lt_or_ge j (insAt x L) with h | h
     ·exact h
     ·have : j = insAt x L := by omega
      subst this
      exact absurd hyx (insAt_end hgy)
    have hyx' : ((y : Int) ≤ (x : Int)) = True := eq_true (by omega)
    simp (disch := omega) [hH.self, hyx', keep_cl, htk0, hqc, add1', hjn, hyx, -Int.natCast_add]
   ·have hjn : j = insAt x L := by
     rcases Nat.lt_or_ge j (insAt x L) with h | h
     ·exact absurd (insAt_lt h hgy) hyx
     ·omega
    have hyx' : ((y : Int) ≤ (x : Int)) = False := eq_false (by omega)
    have hjL : (j ≤ L.length) = True := eq_true (by omega)
    have hDn : (nats .u32 (L.drop j) = []) = False := eq_false (by rw [natsNil, List.drop_eq_nil_iff]; omega)
    have hDl : (L.drop j).length = L.length - j := List.length_drop
    have hTl : (L.take j).length = j := by rw [List.length_take]; omega
    have hby1 : ((1 + (L.length - j)) * 4 ≤ 140737488355328) = True := eq_true (by omega)
    have hby2 : ((j + (L.length - j + 1)) * 4 ≤ 140737488355328) = True := eq_true (by omega)
    have htD : (L.drop j).take (L.length - j) = L.drop j := List.take_of_length_le (by omega)
    have hins : S (k + 1) = L.take j ++ x :: L.drop j := by rw [hst, insS_at, ← hjn]
    have hne2 : (nats .u32 (x :: L.drop j) = []) = False := eq_false (by simp [nats])
    have hcons : [V.int .u32 (x : Int)] :: nats .u32 (L.drop j) = nats .u32 (x :: L.drop j) := rfl
    simp (disch := omega) [hH.self, hyx', keep_cl, htk0, hqc, hyx, hjL, nats_drop, nats_take, htD, hDn, hDl, hTl, hby1, hby2, hne2, hcons, nats_append, gk, gk0, hbk, hins, htn, add1', hlt, hF1, -Int.natCast_add]
  ·have hjl : j = L.length := by omega
   have hlj' : ((j : Int) < (L.length : Int)) = False := eq_false (by omega)
   have hjL : (j ≤ L.length) = True := eq_true (by omega)
   have hD : L.drop j = [] := List.drop_eq_nil_iff.2 (by omega)
   have hTl : (L.take j).length = j := by rw [List.length_take]; omega
   have hby2 : ((j + 1) * 4 ≤ 140737488355328) = True := eq_true (by omega)
   have hins : S (k + 1) = L.take j ++ [x] := by rw [hst, insS_at, show insAt x L = j by omega, hD]
   simp (disch := omega) [hlj', keep_cl, htk0, hqc, hH.self, hjL, nats_drop, nats_take, hD, hTl, hby2, nats_append, gk, gk0, hbk, hins, htn, add1', hlt, hF1, -Int.natCast_add]
 ·have : k = l.length := by omega
  subst this
  have e0 : tks l.length = .no := by rw [htks, if_neg (by omega)]
  simp (disch := omega) [ltF, keep_cl, hbk, hSl, e0, hH.self]
end Go.Ev
/- A machine's code: contract. -/
namespace Go.Ev
open Go Go.RowKit
variable {G : Tbl}
set_option maxRecDepth 10000
set_option maxHeartbeats 8000000
set_option linter.unusedSimpArgs false
set_option linter.unusedVariables false
theorem entsL_snoc (R : Nat → List Ru) (o : Nat) (n : Nat) : ∀ (l : List Nat) (c : List In4), entsL R o (l ++ [n]) c = ((rulesL (R n) ((entsL R o l c).1, o)).1, (entsL R o l c).2 ++ [(n, (rulesL (R n) ((entsL R o l c).1, o)).2)])
 | [], c => rfl
 | m :: l, c => by
  have ih := entsL_snoc R o n l (rulesL (R m) (c, o)).1
  simp only [List.cons_append, entsL, ih]
theorem sumF_take (g : Nat → Nat) : ∀ (l : List Nat) (k : Nat) (x : Nat), l[k]? = some x → sumF g (l.take k) + g x ≤ sumF g l
 | [], k, x, h => by simp at h
 | y :: l, 0, x, h => by simp at h; subst h; simp [sumF]
 | y :: l, k + 1, x, h => by
  have := sumF_take g l k x (by simpa using h)
  simp only [List.take_succ_cons, sumF]; omega
theorem EL_snoc (l : List (Nat × Nat)) (x : Nat × Nat) : EL l ++ [[.int .u32 (x.1 : Int), .int .i64 (x.2 : Int)]] = EL (l ++ [x]) := by simp [EL]
def Holds1 (es : List (V × V)) (a : Nat) (l : List Nat) (n : Nat) : Prop := ∃ i tk, mfind (.sc .int) (.int .u32 (a : Int)) es 0 = some (some (i, .vs (nats .u32 l) tk)) ∧ ∀ m, n ≤ m → tk.cl m = tk
def Holds2 (es : List (V × V)) (a k : Nat) (l : List Ru) (n : Nat) : Prop := ∃ i tk, mfind (.row [.int, .int]) (.agg [.int .u32 (a : Int), .int .u32 (k : Int)]) es 0 = some (some (i, .vs (RL l) tk)) ∧ ∀ m, n ≤ m → tk.cl m = tk
section
variable {H : Heap} {b : Nat} {c : List In4} {rs : List Ru}
theorem beginM_ok [HasIns G] [HasCode G] [HasMk G] [HasCondR G] [HasCondN G] [HasDataL G] [HasLow G] (h : Mkr H b c .no) {a o pn pm po px mn mo : Nat} {esN esO : List (V × V)} (hn : H[pn]? = some (some (.cells [.mp mn]))) (hm : H[pm]? = some (some (.cells [.ptr b 0])))
  (hp : H[po]? = some (some (.cells [.mp mo]))) (hx : H[px]? = i1C o) (hmn : H[mn]? = some (some (.map esN))) (hmo : H[mo]? = some (some (.map esO))) (hN : Holds1 esN a (nrsOf rs a) H.length) (hO : ∀ n ∈ nrsOf rs a, Holds2 esO a n (rulesAt rs a n) H.length)
  (hf : ∀ r ∈ rs, r.fine) (ha : a ∈ archsOf rs) (hl : rs.length ≤ 100) (ho : 1 ≤ o ∧ o ≤ c.length) (hc : c.length + costA rs a ≤ 4096) :
  SF G 425 [.int .u32 a, .ptr pn 0, .ptr pm 0, .ptr po 0, .ptr px 0] H (.int .i64 (archC rs o a c).length) (mkSet H b (archC rs o a c)) := by
 refine SF_of HasLow.h_lower_Lower_1 (Nat.le_of_ble_eq_true rfl) ?_
 have hlb := h.lb
 have hnn := nrs_ne ha
 have hnl : (nrsOf rs a).length ≤ 100 := by
  have h1 := foldNew_len ((rs.filter fun r => decide (r.arch = a)).map (·.nr)) []
  have h2 := List.length_filter_le (fun r => decide (r.arch = a)) rs
  simp only [List.length_map, List.length_nil, Nat.zero_add] at h1
  have : (nrsOf rs a).length ≤ (rs.filter fun r => decide (r.arch = a)).length := h1
  omega
 obtain ⟨iN, tkN, hN, htN⟩ := hN
 simp only [i1C] at hx
 have wS := sortedM_ok (G := G) h.shut (nrsOf rs a) tkN htN hnn (by omega)
 simp [hn, hmn, hN]
 refine callSF_of wS ?_
 have ssl := sortS_len (nrsOf rs a)
 have smem : ∀ n ∈ sortS (nrsOf rs a), n ∈ nrsOf rs a := fun n hn => sortS_mem.1 hn
 obtain ⟨sl, hsl⟩ : ∃ sl, sl = sortS (nrsOf rs a) := ⟨_, rfl⟩
 have hcame := arch_came (o := o) hf ha ho
 have hcost : costE (rulesAt rs a) sl + 6 * sl.length ≤ costA rs a := by rw [hsl, ssl]; exact Nat.le_refl _
 obtain ⟨i1, i2, i3⟩ := ents_came (o := o) (R := rulesAt rs a) (l := sl) (c := c) (fun _ _ => at_fine hf) ho
 have hel := ents_len i3
 rw [← hsl] at ssl smem ⊢
 obtain ⟨S, hS⟩ : ∃ S : Nat → List In4 × List (Nat × Nat), ∀ k, S k = entsL (rulesAt rs a) o (sl.take k) c := ⟨_, fun _ => rfl⟩
 have hS0 : S 0 = (c, []) := by rw [hS]; rfl
 have hSl : S sl.length = entsL (rulesAt rs a) o sl c := by rw [hS, List.take_length]
 have hSn : ∀ k, k ≤ sl.length → (S k).2.length = k := fun k hk => by
  obtain ⟨_, _, h3⟩ := ents_came (o := o) (R := rulesAt rs a) (l := sl.take k) (c := c) (fun _ _ => at_fine hf) ho
  rw [hS, ents_len h3, List.length_take]; omega
 have hself := mkSet_self h
 have hEL0 : EL [] = [] := rfl
 have hX : ∀ (c' : List In4) (n m : Nat), H.length + 1 ≤ m → [some (Blk.zone n)].map (Option.map (Blk.cl m)) = [some (Blk.zone n)] := fun _ _ _ _ => rfl
 have hms : ∀ (c' : List In4) (n : Nat), Mkr (mkSet H b c' ++ [some (.zone n)]) b c' .no := fun c' n => (h.set c').app (fun m hm => rfl)
 have hlen : ∀ (c' : List In4) (n : Nat), (mkSet H b c' ++ [some (Blk.zone n)]).length = H.length + 1 := fun c' n => by simp
 have hsh : ∀ (c' : List In4) (n : Nat), trunc (H.length + 1) (mkSet H b c' ++ [some (.zone n)]) = mkSet H b c' ++ [some (.zone n)] := fun c' n => by have := (hms c' n).shut.self; rwa [hlen] at this
 have hsh2 : ∀ (c' : List In4) (n : Nat) (r : Heap), trunc (H.length + 1) (mkSet H b c' ++ some (.zone n) :: r) = mkSet H b c' ++ [some (.zone n)] := fun c' n r => by
  have := (hms c' n).shut.back r; rw [hlen, List.append_assoc] at this; exact this
 have npm := h.ne hm
 have npo := h.ne hp
 have npx := h.ne hx
 have nmo : mo ≠ b := by intro e; rw [e, h.hb] at hmo; simp [mkrC] at hmo
 have lpm : pm < H.length := (List.getElem?_eq_some_iff.1 hm).1
 have lpo : po < H.length := (List.getElem?_eq_some_iff.1 hp).1
 have lpx : px < H.length := (List.getElem?_eq_some_iff.1 hx).1
 have lmo : mo < H.length := (List.getElem?_eq_some_iff.1 hmo).1
 have tpm : (pm < H.length + 1) = True := eq_true (by omega)
 have tpo : (po < H.length + 1) = True := eq_true (by omega)
 have tpx : (px < H.length + 1) = True := eq_true (by omega)
 have fpm : (H.length + 1 ≤ pm) = False := eq_false (by omega)
 have fpo : (H.length + 1 ≤ po) = False := eq_false (by omega)
 have fpx : (H.length + 1 ≤ px) = False := eq_false (by omega)
 have gpm : ∀ (c' : List In4) (r : Heap), (mkSet H b c' ++ r)[pm]? = some (some (.cells [.ptr b 0])) := fun c' r => by rw [List.getElem?_append_left (by simpa using lpm), mkSet_ne npm]; exact hm
 have gpo : ∀ (c' : List In4) (r : Heap), (mkSet H b c' ++ r)[po]? = some (some (.cells [.mp mo])) := fun c' r => by rw [List.getElem?_append_left (by simpa using lpo), mkSet_ne npo]; exact hp
 have gpx : ∀ (c' : List In4) (r : Heap), (mkSet H b c' ++ r)[px]? = some (some (.cells [.int .i64 o])) := fun c' r => by rw [List.getElem?_append_left (by simpa using lpx), mkSet_ne npx]; exact hx
 have gmo : ∀ (c' : List In4) (r : Heap), (mkSet H b c' ++ r)[mo]? = some (some (.map esO)) := fun c' r => by rw [List.getElem?_append_left (by simpa using lmo), mkSet_ne nmo]; exact hmo
 have gk : ∀ (c' : List In4) (r : Heap) (k : Nat), (mkSet H b c' ++ r)[H.length + k]? = r[k]? := fun c' r k => by rw [List.getElem?_append_right (by simp), mkSet_len]; congr 1; omega
 have gk0 : ∀ (c' : List In4) (r : Heap), (mkSet H b c' ++ r)[H.length]? = r[0]? := fun c' r => gk c' r 0
 have sk0 : ∀ (c' : List In4) (r : Heap) (x : Option Blk), (mkSet H b c' ++ r).set H.length x = mkSet H b c' ++ r.set 0 x := fun c' r x => by rw [List.set_append_right _ _ (by simp), mkSet_len, Nat.sub_self]
 have hsh0 : trunc (H.length + 1) (H ++ [some (.zone 0)]) = H ++ [some (.zone 0)] := by have := hsh c 0; rwa [hself] at this
 have hbk : ∀ (c' : List In4) (r : Heap), trunc H.length (mkSet H b c' ++ r) = mkSet H b c' := fun c' r => by have := (mkSet_shut (b := b) h.shut c').back r; rwa [mkSet_len] at this
 simp [h.shut.self]
 refine W_up sl.length (fun k => [(0, .int .u32 a), (2, .ptr pm 0), (3, .ptr po 0), (4, .ptr px 0), (7, .vs (EL (S k).2) (.own H.length)), (13, .vs (nats .u32 sl) .no), (14, .int .i64 sl.length), (15, .int .i64 k)]) (fun k => mkSet H b (S k).1 ++ [some (.zone k)]) (fun _ => True) ?_ ?_
 ·simp [keep_cl, hS0, hself, hEL0, tpm, tpo, tpx, hsh0]
 intro k hk _
 by_cases hlt : k < sl.length
 ·obtain ⟨x, hx0⟩ : ∃ x, x = sl[k] := ⟨_, rfl⟩
  have hg : sl[k]? = some x := by rw [List.getElem?_eq_getElem hlt, hx0]
  have hgn : (nats .u32 sl)[k]? = some [.int .u32 (x : Int)] := by simp [hg]
  have hge : (nats .u32 sl)[k]'(by simpa using hlt) = [.int .u32 (x : Int)] := by rw [List.getElem?_eq_getElem (by simpa using hlt)] at hgn; exact Option.some.inj hgn
  have hst : S (k + 1) = ((rulesL (rulesAt rs a x) ((S k).1, o)).1, (S k).2 ++ [(x, (rulesL (rulesAt rs a x) ((S k).1, o)).2)]) := by rw [hS, hS, List.take_add_one, hg]; exact entsL_snoc _ _ _ _ _
  obtain ⟨j1, _, _⟩ := ents_came (o := o) (R := rulesAt rs a) (l := sl.take k) (c := c) (fun _ _ => at_fine hf) ho
  rw [← hS] at j1
  have hln := hSn k hk
  have hct := sumF_take (fun n => costR (rulesAt rs a n)) sl k x hg
  obtain ⟨iO, tkO, hOf, htO⟩ := hO x (smem x (List.mem_of_getElem? hg))
  obtain ⟨⟨c1, es1⟩, hs1⟩ : ∃ s, s = S k := ⟨_, rfl⟩
  rw [← hs1] at hst j1 hln ⊢
  have gj := j1.grown.len
  have lj := j1.lab
  simp only [costE] at hst gj lj hln hcost
  have wr := rulesM_ok (G := G) ((h.set c1).app (R := [some (.zone k), none]) (fun m hm => rfl)) (rulesAt rs a x) tkO (fun m hm => htO m (by simp at hm; omega)) o (at_fine hf) lj (by omega)
  rw [mkSet_app (by simpa using hlb), mkSet_mkSet] at wr
  have hkey : eqks [.int, .int] [.int .u32 (a : Int), .int .u32 (x : Int)] [.int .u32 (a : Int), .int .u32 (x : Int)] = some true := by simp [eqks, eqk]
  simp (disch := omega) [ltT, get_in, hgn, hge, hlt]
  simp [gpm, gpo, gpx, gmo, hOf, fpm, fpo, fpx]
  refine callSF_of wr ?_
  have hby : ((k + 1) * 16 ≤ 140737488355328) = True := eq_true (by omega)
  have hsn := EL_snoc es1 (x, (rulesL (rulesAt rs a x) (c1, o)).2)
  simp only at hsn
  simp [EL_sz, gk, gk0, sk0, hln, hby, hsn, hst, -Int.natCast_add]
  simp (disch := omega) [keep_cl, hsh, hsh2, tpm, tpo, tpx, add1', hlt, hst, -Int.natCast_add]
  done
 ·have : k = sl.length := by omega
  subst this
  rw [hSl]
  have wt := treeM_ok (G := G) (o := o) (entsL (rulesAt rs a) o sl c).2.length (hms (entsL (rulesAt rs a) o sl c).1 sl.length) (entsL (rulesAt rs a) o sl c).2 (.own H.length) (fun n hn => by simp at hn; simp [Tk.cl]; omega)
   (by intro e; rw [e] at hel; simp at hel; have := sortS_len (nrsOf rs a); rw [← hsl] at this; exact hnn (List.length_eq_zero_iff.1 (by omega))) (Nat.le_refl _) i2
   (fun e he => nrs_fine hf (a := a) (smem _ (by rw [← i3]; exact List.mem_map.2 ⟨e, he, rfl⟩))) i1.lab (by have := i1.grown.len; simp only at this; omega)
  rw [mkSet_app (by simpa using hlb), mkSet_mkSet] at wt
  have tl := (tree_came (o := o) _ (by intro e; rw [e] at hel; simp at hel; have := sortS_len (nrsOf rs a); rw [← hsl] at this; exact hnn (List.length_eq_zero_iff.1 (by omega))) (Nat.le_refl _) i2
   (fun e he => nrs_fine hf (a := a) (smem _ (by rw [← i3]; exact List.mem_map.2 ⟨e, he, rfl⟩))) i1.lab).grown.len
  have gi := i1.grown.len
  have hA : archC rs o a c = putF (treeL (entsL (rulesAt rs a) o sl c).2.length (entsL (rulesAt rs a) o sl c).1 (entsL (rulesAt rs a) o sl c).2 o).1 32 0 := by rw [hsl]; rfl
  have hpos : 0 < sl.length := by have := sortS_len (nrsOf rs a); rw [← hsl] at this; have := List.length_pos_iff.2 hnn; omega
  generalize treeL (entsL (rulesAt rs a) o sl c).2.length (entsL (rulesAt rs a) o sl c).1 (entsL (rulesAt rs a) o sl c).2 o = s2 at *
  generalize entsL (rulesAt rs a) o sl c = s1 at *
  have wa := addM_ok (G := G) ((h.set s2.1).app (R := [some (.zone sl.length)]) (fun m hm => rfl)) 32 0 (.inr (.inr ⟨rfl, by decide, by decide⟩)) (by simp only at gi; omega)
  rw [mkSet_app (by simpa using hlb), mkSet_mkSet, ← hA] at wa
  simp (disch := omega) [ltF, keep_cl, hsh, tpm, tpo, tpx, gpm, gpo, gpx]
  refine callSF_of wt ?_
  simp (disch := omega) [keep_cl, hsh, tpm, tpo, tpx, gpm, gpo, gpx]
  refine callSF_of wa ?_
  simp [hbk]
  done
end
end Go.Ev
