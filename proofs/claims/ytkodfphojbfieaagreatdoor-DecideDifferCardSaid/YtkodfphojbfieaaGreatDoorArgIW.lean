/- Arguments of the statements: instructions, states, records. -/
import Derived.Test.YtkodfphojbfieaaGreatDoorCheckBW
import Derived.Test.YtkodfphojbfieaaGreatDoorEvSW
import Derived.Test.YtkodfphojbfieaaGreatDoorDecDW
set_option linter.unusedVariables false
set_option linter.unusedSimpArgs false
namespace Go.Ev
open Go Go.RowKit
set_option linter.unusedSimpArgs false
set_option linter.unusedVariables false
def i64R (n : Int) : Prop := -9223372036854775808 ≤ n ∧ n ≤ 9223372036854775807
def In4.ok (x : In4) : Prop := (i64R x.op ∧ i64R x.jt ∧ i64R x.jf) ∧ x.k < 4294967296
theorem i64_wf {n : Int} (h : (Lit.int .i64 n).wf = true) : i64R n := by
  simp [Lit.wf, IntKind.min, IntKind.max, IntKind.signed, IntKind.bits] at h
  unfold i64R
  omega
theorem hasty_int {k : IntKind} {cs : List V} (h : HasTy (.int k) cs) : ∃ n, cs = [.int k n] ∧ (Lit.int k n).wf = true := by simpa only [HasTy] using h
theorem ins_cells {cs : List V} (h : HasTy (.agg [.int .i64, .int .i64, .int .i64, .int .u32]) cs) : ∃ x : In4, cs = x.cs ∧ x.ok := by
  simp only [HasTy, HasTys] at h
  obtain ⟨a, _, rfl, ⟨n1, rfl, w1⟩, b, _, rfl, ⟨n2, rfl, w2⟩, c, _, rfl, ⟨n3, rfl, w3⟩, d, _, rfl, ⟨n4, rfl, w4⟩, rfl⟩ := h
  have w4 := u32_wf w4
  refine ⟨⟨n1, n2, n3, n4.toNat⟩, ?_, ⟨i64_wf w1, i64_wf w2, i64_wf w3⟩, by simp only; omega⟩
  simp [In4.cs, Int.toNat_of_nonneg w4.1]
theorem arr_cells {n : Nat} {cs : List V} (h : HasTy (.arr n (.int .u32)) cs) : ∃ t : List Nat, cs = cnats .u32 t ∧ t.length = n ∧ ∀ x ∈ t, x < 4294967296 := arr_nats h
theorem u64_wf {n : Int} (h : (Lit.int .u64 n).wf = true) : 0 ≤ n ∧ n < 18446744073709551616 := by
  simp [Lit.wf, IntKind.min, IntKind.max, IntKind.signed, IntKind.bits] at h
  omega
theorem nats_of64 : ∀ {l : List Int}, (∀ n ∈ l, (Lit.int .u64 n).wf = true) → ∃ t : List Nat, l = t.map (fun (x : Nat) => (x : Int)) ∧ ∀ x ∈ t, x < 18446744073709551616
  | [], _ => ⟨[], rfl, by simp⟩
  | n :: l, h => by
    obtain ⟨t, rfl, ht⟩ := nats_of64 (l := l) fun x hx => h x (by simp [hx])
    have := u64_wf (h n (by simp))
    refine ⟨n.toNat :: t, by simp [Int.toNat_of_nonneg this.1], fun x hx => ?_⟩
    simp only [List.mem_cons] at hx
    rcases hx with rfl | hx
    · omega
    · exact ht x hx
theorem flat_nats64 : ∀ t : List Nat, (ints .u64 (t.map fun (x : Nat) => (x : Int))).flatten = cnats .u64 t
  | [] => rfl
  | x :: t => by
    have := flat_nats64 t
    simp only [ints, cnats, List.map_cons, List.flatten_cons] at this ⊢
    rw [this]; rfl
theorem arr_cells64 {n : Nat} {cs : List V} (h : HasTy (.arr n (.int .u64)) cs) : ∃ t : List Nat, cs = cnats .u64 t ∧ t.length = n ∧ ∀ x ∈ t, x < 18446744073709551616 := by
  simp only [HasTy] at h
  obtain ⟨es, rfl, hl, he⟩ := h
  obtain ⟨l, rfl, hw⟩ := ints_of (k := .u64) (fun x hx => by simpa only [HasTy] using he x hx)
  obtain ⟨t, rfl, ht⟩ := nats_of64 hw
  exact ⟨t, flat_nats64 t, by simpa using hl, ht⟩
theorem u32_cell {cs : List V} (h : HasTy (.int .u32) cs) : ∃ n : Nat, cs = [.int .u32 (n : Int)] ∧ n < 4294967296 := by
  obtain ⟨n, rfl, hw⟩ := hasty_int h
  have := u32_wf hw
  exact ⟨n.toNat, by rw [Int.toNat_of_nonneg this.1], by omega⟩
theorem u64_cell {cs : List V} (h : HasTy (.int .u64) cs) : ∃ n : Nat, cs = [.int .u64 (n : Int)] ∧ n < 18446744073709551616 := by
  obtain ⟨n, rfl, hw⟩ := hasty_int h
  have := u64_wf hw
  exact ⟨n.toNat, by rw [Int.toNat_of_nonneg this.1], by omega⟩
theorem st_arg {v : V} (h : ArgIs (.agg [.int .u32, .int .u32, .arr 16 (.int .u32)]) v) : ∃ s : St, v = SV s ∧ s.ok := by
  unfold ArgIs at h
  obtain ⟨cs, rfl, h⟩ := h
  unfold HasTy HasTys at h
  obtain ⟨a, b, rfl, h1, h⟩ := h
  unfold HasTys at h
  obtain ⟨c, d, rfl, h2, h⟩ := h
  unfold HasTys at h
  obtain ⟨f, g, rfl, h3, h⟩ := h
  unfold HasTys at h
  subst h
  obtain ⟨n1, rfl, w1⟩ := u32_cell h1
  obtain ⟨n2, rfl, w2⟩ := u32_cell h2
  obtain ⟨t, rfl, hl, ht⟩ := arr_cells h3
  exact ⟨⟨n1, n2, t⟩, by simp [SV, St.cs], w1, w2, hl, ht⟩
theorem da_arg {v : V} (h : ArgIs (.agg [.int .u32, .int .u32, .int .u64, .arr 6 (.int .u64)]) v) : ∃ d : Da, v = DV d ∧ d.ok := by
  unfold ArgIs at h
  obtain ⟨cs, rfl, h⟩ := h
  unfold HasTy HasTys at h
  obtain ⟨a, b, rfl, h1, h⟩ := h
  unfold HasTys at h
  obtain ⟨c, d, rfl, h2, h⟩ := h
  unfold HasTys at h
  obtain ⟨c', d', rfl, h2', h⟩ := h
  unfold HasTys at h
  obtain ⟨f, g, rfl, h3, h⟩ := h
  unfold HasTys at h
  subst h
  obtain ⟨n1, rfl, w1⟩ := u32_cell h1
  obtain ⟨n2, rfl, w2⟩ := u32_cell h2
  obtain ⟨n3, rfl, w3⟩ := u64_cell h2'
  obtain ⟨t, rfl, hl, ht⟩ := arr_cells64 h3
  exact ⟨⟨n1, n2, n3, t⟩, by simp [DV, Da.cs], w1, w2, w3, hl, ht⟩
theorem flt_list : ∀ {es : List (List V)}, (∀ x ∈ es, HasTy (.agg [.int .i64, .int .i64, .int .i64, .int .u32]) x) → ∃ f : List In4, es = IL f ∧ ∀ x ∈ f, x.ok
  | [], _ => ⟨[], rfl, by simp⟩
  | e :: es, h => by
    obtain ⟨x, rfl, hx⟩ := ins_cells (h e (by simp))
    obtain ⟨f, rfl, hf⟩ := flt_list (es := es) fun y hy => h y (by simp [hy])
    refine ⟨x :: f, by simp [IL], fun y hy => ?_⟩
    simp only [List.mem_cons] at hy
    rcases hy with rfl | hy
    · exact hx
    · exact hf y hy
theorem flt_arg {v : V} (h : ArgIs (.sl (.agg [.int .i64, .int .i64, .int .i64, .int .u32])) v) : ∃ f : List In4, v = FL f ∧ f.length ≤ maxLen ∧ ∀ x ∈ f, x.ok := by
  have h : HasTy (.sl (.agg [.int .i64, .int .i64, .int .i64, .int .u32])) [v] := h
  rw [HasTy] at h
  obtain ⟨es, hes, hl, he⟩ := h
  obtain ⟨f, rfl, hf⟩ := flt_list he
  simp only [List.cons.injEq, and_true] at hes
  exact ⟨f, by rw [hes]; rfl, by simpa using hl, hf⟩
end Go.Ev
/- The laws DecideEqual, DecideDiffer. -/
namespace Go.Ev
open Go Go.RowKit
variable {G : Tbl}
set_option maxRecDepth 10000
set_option maxHeartbeats 4000000
set_option linter.unusedSimpArgs false
set_option linter.unusedVariables false
theorem ansC_hd (c : Int) (o : Option (List Nat)) : (ansC c o).take 1 = [.int .i64 c] := by cases o <;> rfl
theorem decR_len (v w : List In4) (live : Nat) : (ansC (decR v w live).1 (decR v w live).2).length = 28 := by
  cases hww : winB v && winB w with
  | false =>
    have hd0 : decR v w live = (0, none) := by simp [decR, hww]
    rw [hd0]; rfl
  | true =>
    simp only [Bool.and_eq_true] at hww
    rcases dec_tells (live := live) hww.1 hww.2 with ⟨e, _⟩ | ⟨r, e, hr, _, _⟩ | ⟨e, _, _⟩
    · rw [e]; rfl
    · obtain ⟨h1, h2⟩ := triesL_ok hr
      rw [e]; exact (ansC_cells h1 h2 1).1
    · rw [e]; rfl
theorem DecideEqual_ok [HasWd G] [HasNeg G] [HasIns G] [HasCheck G] [HasData G] [HasWith G] [HasStep G] [HasWRight G] [HasWinRun G] [HasWinAsg G] [HasWinState G] [HasWinOf G] [HasAffApart G] [HasAffine G] [hBA : HasBitsA G] [HasSymNew G] [HasSym G] [HasSymApart G] [HasDecDf G] [HasDec G]
    [HasR2 G] [HasR5o G] [HasR17 G] [hR1 : HasR1 G] [HasR1n G] [HasR4 G] [HasR6s G] [HasR17r G] [HasR17a G] [HasR18 G] [HasL18 G] [HasL18z G]
    (hkn : FP G 319 [] (.bool true)) (v w : List In4) (live : Nat) (s : St) (d : Da) (hf : v.length ≤ maxLen) (hg : w.length ≤ maxLen)
    (hk : ∀ x ∈ v, x.k < 4294967296) (hkw : ∀ x ∈ w, x.k < 4294967296) (hlv : live < 4294967296) (hs : s.ok) (hd : d.ok) :
    FP G 321 [FL v, FL w, .int .u32 live, SV s, DV d] (.bool true) := by
  refine FP_of HasL18z.h_hurdlelaw18_DecideEqual (Nat.le_of_ble_eq_true rfl) ?_
  have hgr := great18_ok (G := G) v w
  have sl := cs_len hs
  have dl := dcs_len hd
  have st := List.take_of_length_le (i := 18) (l := s.cs) (by omega)
  have dt := List.take_of_length_le (i := 9) (l := d.cs) (by omega)
  have sd : s.cs.drop 18 = [] := List.drop_eq_nil_of_le (by omega)
  have dd : d.cs.drop 9 = [] := List.drop_eq_nil_of_le (by omega)
  simp only [FL] at hgr
  simp [FL, SV, DV, sl, dl, st, dt, sd, dd, cs_cl, dcs_cl, cs_nf, dcs_nf]
  refine callP_of hgr ?_
  by_cases hb : 100 < v.length ∨ 100 < w.length
  · have hb' : (decide (100 < v.length) || decide (100 < w.length)) = true := by simpa using hb
    simp [hb']
    refine callP_of hkn ?_
    simp
  have hb' : (decide (100 < v.length) || decide (100 < w.length)) = false := by simpa using hb
  simp only [not_or, Nat.not_lt] at hb
  have hdc := Decide_ok (G := G) v w live hf hg hk hkw hlv
  have hfa := fair_ok (G := G) v w (by omega) (by omega) hk hkw
  have hdr := DiffersR_ok (G := G) v w live s d (by omega) (by omega) hk hkw hlv hs hd
  simp only [FL, SV, DV] at hdc hfa hdr
  simp [hb', sl, dl, st, dt, sd, dd, cs_cl, dcs_cl, cs_nf, dcs_nf, keep_cl]
  obtain ⟨A, hA⟩ : ∃ A, A = ansC 0 none := ⟨_, rfl⟩
  have lA : A.length = 28 := by rw [hA]; rfl
  have hA0z : V.int .i64 0 :: (cnats .u32 (zeros 20) ++ cnats .u64 (zeros 7)) = A := by rw [hA]; rfl
  have tA : A.take 28 = A := List.take_of_length_le (by omega)
  have dA : A.drop 28 = [] := List.drop_eq_nil_of_le (by omega)
  have kA : ∀ n, clL n A = A := fun n => by rw [hA]; exact ansC_cl _ _ n
  have nA : A.map V.nf1 = A := by rw [hA]; exact ansC_nf _ _
  obtain ⟨B, hB⟩ : ∃ B, B = ansC (decR v w live).1 (decR v w live).2 := ⟨_, rfl⟩
  have kB : ∀ n, clL n B = B := fun n => by rw [hB]; exact ansC_cl _ _ n
  have nB : B.map V.nf1 = B := by rw [hB]; exact ansC_nf _ _
  have lB : B.length = 28 := by rw [hB]; exact decR_len v w live
  have tB : B.take 28 = B := List.take_of_length_le (by omega)
  have dB : B.drop 28 = [] := List.drop_eq_nil_of_le (by omega)
  have B1 : B.take 1 = [.int .i64 (decR v w live).1] := by rw [hB]; exact ansC_hd _ _
  obtain ⟨eN, heN⟩ : ∃ eN : Int, eN = if (winB v && winB w) = true then 0 else 1 := ⟨_, rfl⟩
  rw [← hB, ← heN] at hdc
  refine callP_of hdc ?_
  simp [hA0z, lA, tA, dA, lB, tB, dB, kA, kB, sl, dl, st, dt, sd, dd, cs_cl, dcs_cl, cs_nf, dcs_nf, keep_cl]
  refine callP_of hfa ?_
  cases hww : winB v && winB w with
  | false =>
    have he1 : eN = 1 := by rw [heN, hww]; rfl
    have hd0 : decR v w live = (0, none) := by simp [decR, hww]
    have hBA : B = A := by rw [hB, hA, hd0]
    have hae : eqks (List.replicate 28 Kd.int) A A = some true := by rw [hA]; decide
    rw [show List.replicate 28 Kd.int = [Kd.int, .int, .int, .int, .int, .int, .int, .int, .int, .int, .int, .int, .int, .int, .int, .int, .int, .int, .int, .int, .int, .int, .int, .int, .int, .int, .int, .int] from rfl] at hae
    simp [hBA, lA, tA, hae, he1]
    refine callP_of hkn ?_
    simp
  | true =>
    have hv : winB v = true := by simp only [Bool.and_eq_true] at hww; exact hww.1
    have hw : winB w = true := by simp only [Bool.and_eq_true] at hww; exact hww.2
    have he1 : eN = 0 := by rw [heN, hww]; rfl
    simp [lB, tB, B1, he1]
    rcases dec_tells (live := live) hv hw with ⟨e, hsm⟩ | ⟨r, e, hr, hh, _⟩ | ⟨e, hn, _⟩
    · have hdf := same_diff hk hkw hs hd hv hw hsm
      rw [hdf] at hdr
      simp [e, sl, dl, st, dt, sd, dd, cs_cl, dcs_cl, cs_nf, dcs_nf, keep_cl]
      refine callP_of hdr ?_
      simp
      refine callP_of hkn ?_
      simp
    · simp [e]
      refine callP_of hkn ?_
      simp
    · simp [e]
      refine callP_of hkn ?_
      simp
theorem DecideDiffer_ok [HasWd G] [HasNeg G] [HasIns G] [HasCheck G] [HasData G] [HasWith G] [HasStep G] [HasWRight G] [HasWinRun G] [HasWinAsg G] [HasWinState G] [HasWinOf G] [HasAffApart G] [HasAffine G] [hBA : HasBitsA G] [HasSymNew G] [HasSym G] [HasSymApart G] [HasDecDf G] [HasDec G]
    [HasR2 G] [HasR5o G] [HasR17 G] [hR1 : HasR1 G] [HasR1n G] [HasR4 G] [HasR6s G] [HasR17r G] [HasR17a G] [HasR18 G] [HasL18 G] [HasL18z G]
    (hkn : FP G 319 [] (.bool true)) (v w : List In4) (live : Nat) (hf : v.length ≤ maxLen) (hg : w.length ≤ maxLen)
    (hk : ∀ x ∈ v, x.k < 4294967296) (hkw : ∀ x ∈ w, x.k < 4294967296) (hlv : live < 4294967296) :
    FP G 322 [FL v, FL w, .int .u32 live] (.bool true) := by
  refine FP_of HasL18z.h_hurdlelaw18_DecideDiffer (Nat.le_of_ble_eq_true rfl) ?_
  have hgr := great18_ok (G := G) v w
  simp only [FL] at hgr
  simp [FL]
  refine callP_of hgr ?_
  by_cases hb : 100 < v.length ∨ 100 < w.length
  · have hb' : (decide (100 < v.length) || decide (100 < w.length)) = true := by simpa using hb
    simp [hb']
    refine callP_of hkn ?_
    simp
  have hb' : (decide (100 < v.length) || decide (100 < w.length)) = false := by simpa using hb
  simp only [not_or, Nat.not_lt] at hb
  have hdc := Decide_ok (G := G) v w live hf hg hk hkw hlv
  have hfa := fair_ok (G := G) v w (by omega) (by omega) hk hkw
  simp only [FL] at hdc hfa
  simp [hb']
  refine callP_of hfa ?_
  cases hww : winB v && winB w with
  | false =>
    simp
    refine callP_of hkn ?_
    simp
  | true =>
  have hv : winB v = true := by simp only [Bool.and_eq_true] at hww; exact hww.1
  have hw : winB w = true := by simp only [Bool.and_eq_true] at hww; exact hww.2
  obtain ⟨A, hA⟩ : ∃ A, A = ansC 0 none := ⟨_, rfl⟩
  have lA : A.length = 28 := by rw [hA]; rfl
  have hA0z : V.int .i64 0 :: (cnats .u32 (zeros 20) ++ cnats .u64 (zeros 7)) = A := by rw [hA]; rfl
  have tA : A.take 28 = A := List.take_of_length_le (by omega)
  have dA : A.drop 28 = [] := List.drop_eq_nil_of_le (by omega)
  have kA : ∀ n, clL n A = A := fun n => by rw [hA]; exact ansC_cl _ _ n
  obtain ⟨c, hc⟩ : ∃ c, c = (decR v w live).1 := ⟨_, rfl⟩
  obtain ⟨o, ho⟩ : ∃ o, o = (decR v w live).2 := ⟨_, rfl⟩
  obtain ⟨B, hB⟩ : ∃ B, B = ansC c o := ⟨_, rfl⟩
  have kB : ∀ n, clL n B = B := fun n => by rw [hB]; exact ansC_cl _ _ n
  have nB : B.map V.nf1 = B := by rw [hB]; exact ansC_nf _ _
  have lB : B.length = 28 := by rw [hB, hc, ho]; exact decR_len v w live
  have tB : B.take 28 = B := List.take_of_length_le (by omega)
  have dB : B.drop 28 = [] := List.drop_eq_nil_of_le (by omega)
  have B1 : B.take 1 = [.int .i64 c] := by rw [hB]; exact ansC_hd _ _
  rw [hww, if_pos rfl, ← hc, ← ho, ← hB] at hdc
  simp
  refine callP_of hdc ?_
  simp [hA0z, lA, tA, dA, lB, tB, dB, B1, kA, kB, keep_cl]
  rcases dec_tells (live := live) hv hw with ⟨e, hsm⟩ | ⟨r, e, hr, hh, _⟩ | ⟨e, hn, _⟩
  · rw [e] at hc ho
    simp only at hc ho
    subst hc ho
    have hBA : B = A := by rw [hB, hA]
    have At : V.int .i64 0 :: A.tail = A := by rw [hA]; rfl
    have hae : eqks (List.replicate 28 Kd.int) A A = some true := by rw [hA]; decide
    rw [show List.replicate 28 Kd.int = [Kd.int, .int, .int, .int, .int, .int, .int, .int, .int, .int, .int, .int, .int, .int, .int, .int, .int, .int, .int, .int, .int, .int, .int, .int, .int, .int, .int, .int] from rfl] at hae
    have A1 : A.take 1 = [.int .i64 0] := by rw [hA]; rfl
    simp [hBA, lA, tA, A1, At, hae]
    refine callP_of hkn ?_
    simp
  · rw [e] at hc ho
    simp only at hc ho
    subst hc ho
    obtain ⟨r1, r2⟩ := triesL_ok hr
    have hso := stO_ok r1 r2
    have hdo := ofW_ok (w := r.drop 18) (by simp [r1]) (fun x hx => r2 x (List.mem_of_mem_drop hx))
    have hdr := DiffersR_ok (G := G) v w live (stO r) (ofW (r.drop 18)) (by omega) (by omega) hk hkw hlv hso hdo
    rw [hh] at hdr
    simp only [FL, SV, DV] at hdr
    obtain ⟨la, lb, lc⟩ := ansC_cells r1 r2 1
    rw [← hB] at lb lc
    have lc' : (B.drop 19).take 9 = (ofW (r.drop 18)).cs := by rw [lc]; exact List.take_of_length_le (by rw [dcs_len hdo]; exact Nat.le_refl _)
    simp [lB, tB, B1, lb, lc', cs_cl, dcs_cl, cs_nf, dcs_nf]
    refine callP_of hdr ?_
    simp
    refine callP_of hkn ?_
    simp
  · rw [e] at hc ho
    simp only at hc ho
    subst hc ho
    have At : V.int .i64 2 :: A.tail = B := by rw [hA, hB]; rfl
    have hae : eqks (List.replicate 28 Kd.int) B B = some true := by rw [hB]; decide
    rw [show List.replicate 28 Kd.int = [Kd.int, .int, .int, .int, .int, .int, .int, .int, .int, .int, .int, .int, .int, .int, .int, .int, .int, .int, .int, .int, .int, .int, .int, .int, .int, .int, .int, .int] from rfl] at hae
    simp [lA, tA, lB, tB, B1, At, hae]
    refine callP_of hkn ?_
    simp
end Go.Ev
