/- What the functions of hurdleref15 and hurdleref01 compute. -/
import Derived.Test.YtdomogpjchpbnaaEvRef15C
import Derived.Test.YtdomogpjchpbnaaBitsW
import Derived.Test.YtdomogpjchpbnaaEvU
namespace Go.Ev
open Go Go.RowKit
variable {G : Tbl}
set_option maxRecDepth 10000
set_option maxHeartbeats 2000000
set_option linter.unusedSimpArgs false
set_option linter.unusedVariables false

theorem mulN {a b : Nat} (h : a * b ≤ 9223372036854775807) : mulI .i64 (a : Int) (b : Int) = ((a * b : Nat) : Int) := by
  have h2 : ((a : Int) * (b : Int)) = ((a * b : Nat) : Int) := by rw [Int.natCast_mul]
  unfold mulI
  rw [h2]
  exact wrap_nat64 (by omega)
theorem mul2 {a : Nat} (h : a * 2 ≤ 9223372036854775807) : mulI .i64 (a : Int) 2 = ((a * 2 : Nat) : Int) := mulN (b := 2) h

theorem size_ok (hG : HasRef15 G) (n : Nat) (hn : n ≤ 62) : FP G 113 [.int .i64 n] (.int .i64 (2 ^ n : Nat)) := by
  refine FP_of hG.h_hurdleref15_size (Nat.le_of_ble_eq_true rfl) ?_
  simp [-Int.natCast_pow]
  refine W_up n (fun i => [(0, .int .i64 n), (3, .int .i64 (2 ^ i : Nat)), (4, .int .i64 i)]) (fun _ => []) (fun _ => True) ?_ ?_
  · simp [keep_cl, trunc, -Int.natCast_pow]
  intro i hi _
  by_cases hlt : i < n
  · have h1 : 2 ^ i * 2 ≤ 2 ^ 62 := by rw [← Nat.pow_succ]; exact Nat.pow_le_pow_right (by decide) (by omega)
    simp (disch := omega) [ltT, mul2, add1', keep_cl, trunc, hlt, Nat.pow_succ, -Int.natCast_pow, -Int.natCast_add, -Int.natCast_mul]
  · have hne : i = n := by omega
    subst hne
    simp (disch := omega) [ltF, -Int.natCast_pow]

theorem turned_eq (n j : Nat) : (if n / 2 ^ j % 2 = 1 then n - 2 ^ j else n + 2 ^ j) = n ^^^ 2 ^ j := by
  have hd := Nat.div_add_mod n (2 ^ j)
  have hm : n % 2 ^ j < 2 ^ j := Nat.mod_lt _ (Nat.two_pow_pos j)
  have key : ∀ q, q / 2 = n / 2 ^ j / 2 → q % 2 = 1 - n / 2 ^ j % 2 → 2 ^ j * q + n % 2 ^ j = n ^^^ 2 ^ j := by
    intro q h1 h2
    refine Nat.eq_of_testBit_eq fun i => ?_
    rw [Nat.testBit_two_pow_mul_add _ hm, Nat.testBit_xor, Nat.testBit_two_pow]
    by_cases hij : i < j
    · rw [if_pos hij, Nat.testBit_mod_two_pow]
      have : j ≠ i := by omega
      simp [hij, this]
    · rw [if_neg hij]
      have hn : n.testBit i = (n / 2 ^ j).testBit (i - j) := by rw [Nat.testBit_div_two_pow]; congr 1; omega
      rw [hn]
      by_cases h0 : i = j
      · subst h0
        simp only [Nat.sub_self, Nat.testBit_zero, decide_true]
        rcases Nat.mod_two_eq_zero_or_one (n / 2 ^ i) with h | h <;> rw [h] at h2 ⊢ <;> simp [h2]
      · have : j ≠ i := fun e => h0 e.symm
        obtain ⟨k, hk⟩ : ∃ k, i - j = k + 1 := ⟨i - j - 1, by omega⟩
        rw [hk, Nat.testBit_succ, Nat.testBit_succ, h1]; simp [this]
  generalize n / 2 ^ j = q at *
  generalize n % 2 ^ j = r at *
  split
  · rename_i h
    have h3 : 2 ^ j * (q - 1) + 2 ^ j = 2 ^ j * q := by
      rw [← Nat.mul_succ]; congr 1; omega
    have := key (q - 1) (by omega) (by omega)
    omega
  · rename_i h
    have h3 : 2 ^ j * (q + 1) = 2 ^ j * q + 2 ^ j := Nat.mul_succ _ _
    have := key (q + 1) (by omega) (by omega)
    omega
theorem rem2 {a : Nat} : remI (a : Int) 2 = ((a % 2 : Nat) : Int) := rem64 (b := 2)
theorem turned_ok (hG : HasRef15 G) (n j : Nat) (hn : n < 2 ^ 62) (hj : j ≤ 60) : FP G 114 [.int .i64 n, .int .i64 j] (.int .i64 (n ^^^ 2 ^ j : Nat)) := by
  have h1 : 2 ^ j ≤ 2 ^ 60 := Nat.pow_le_pow_right (by decide) hj
  have h0 : 0 < 2 ^ j := Nat.two_pow_pos j
  refine FP_of hG.h_hurdleref15_turned (Nat.le_of_ble_eq_true rfl) ?_
  simp [-Int.natCast_pow]
  refine callP_of (size_ok hG j (by omega)) ?_
  have ht := turned_eq n j
  by_cases h : n / 2 ^ j % 2 = 1
  · have hle : 2 ^ j ≤ n := by
      rcases Nat.lt_or_ge n (2 ^ j) with h2 | h2
      · rw [Nat.div_eq_of_lt h2] at h; omega
      · exact h2
    rw [if_pos h] at ht
    simp (disch := omega) [eqF, quo64, rem2, h, -Int.natCast_pow, -Int.natCast_ediv, -Int.natCast_emod]
    refine callP_of (size_ok hG j (by omega)) ?_
    have hs : subI .i64 (n : Int) ((2 ^ j : Nat) : Int) = ((n - 2 ^ j : Nat) : Int) := by rw [subI64] <;> omega
    simp [hs, ht, -Int.natCast_pow]
  · rw [if_neg h] at ht
    simp (disch := omega) [eqF, quo64, rem2, beqF, h, -Int.natCast_pow, -Int.natCast_ediv, -Int.natCast_emod]
    refine callP_of (size_ok hG j (by omega)) ?_
    simp (disch := omega) [addN, ht, -Int.natCast_pow]

def anyU (tab : List Nat) (j m : Nat) : Bool := (List.range m).any fun n => tab[n]? != tab[n ^^^ 2 ^ j]?
theorem RightR_ok (hG : HasRef15 G) (vars : List Int) (tab : List Nat) (hv : vars.length ≤ 9223372036854775807) (ht : tab.length ≤ 9223372036854775807) : FP G 115 [FV vars tab] (.bool (rightB vars tab)) := by
  refine FP_of hG.h_hurdleref15_Right (Nat.le_of_ble_eq_true rfl) ?_
  simp [FV]
  by_cases h4 : vars.length ≤ 4
  case neg => simp (disch := omega) [leT, leF, ltT, ltF]; simp [rightB, Right, h4]
  simp (disch := omega) [leT, leF, ltT, ltF]
  refine callP_of (size_ok hG vars.length (by omega)) ?_
  by_cases h7 : tab.length = 2 ^ vars.length
  case neg =>
    have h8 : ¬ ((tab.length : Int) = ((2 ^ vars.length : Nat) : Int)) := by
      simp only [Int.ofNat_inj]; exact h7
    simp [bneT h8, -Int.natCast_pow]
    simp [rightB, Right, h7]
  have hsm := tab_small h4 h7
  simp [h7, -Int.natCast_pow]
  refine W_up vars.length (fun n => [(1, .ptr 0 0), (3, .int .i64 n)])
    (fun _ => [some (.cells [.vs (ints .i64 vars) .no, .vs (nats .u32 tab) .no])]) (fun n => ∀ m, m < n → okAt vars tab m) ?_ ?_
  · simp [keep_cl, trunc]
  intro n hn hall
  by_cases hlt : n < vars.length
  case neg =>
    have hnl : n = vars.length := by omega
    subst hnl
    have : rightB vars tab = true := by simp only [rightB, decide_eq_true_eq]; exact ⟨h4, h7, hall⟩
    simp [this]
  have hbad : ¬ okAt vars tab n → rightB vars tab = false := fun h => by simp only [rightB, decide_eq_false_iff_not]; exact fun hR => h (hR.2.2 n hlt)
  have hgood : okAt vars tab n → ∀ m, m < n + 1 → okAt vars tab m := fun h m hm => by
    by_cases hmn : m = n
    · subst hmn; exact h
    · exact hall m (by omega)
  have h1 : vars[n]? = some vars[n] := List.getElem?_eq_getElem hlt
  by_cases ha : vars[n] < 0
  · have := hbad (by rintro ⟨v, hv, h0, _⟩; rw [h1] at hv; cases hv; omega)
    simp (disch := omega) [leT, leF, ltT, ltF, ltTn, ltFn, get_in, this]
  by_cases hb : vars[n] < 34
  case neg =>
    have := hbad (by rintro ⟨v, hv, h0, h2, _⟩; rw [h1] at hv; cases hv; omega)
    simp (disch := omega) [leT, leF, ltT, ltF, ltTn, ltFn, get_in, this]
  by_cases hup : 0 < n ∧ ∃ u, vars[n - 1]? = some u ∧ vars[n] ≤ u
  · obtain ⟨hn0, u, hu, hle⟩ := hup
    have := hbad (by rintro ⟨v, hv, _, _, h3, _⟩; rw [h1] at hv; cases hv; have := h3 u hn0 hu; omega)
    rw [List.getElem?_eq_getElem (by omega)] at hu
    have hu := Option.some.inj hu
    simp (disch := omega) [leT, leF, ltT, ltF, ltTn, ltFn, get_in, sub1', this, -Int.natCast_add]
  have hlow : ∀ u, 0 < n → vars[n - 1]? = some u → u < vars[n] := fun u h0 hu => by
    rcases Int.lt_or_le u vars[n] with h | h
    · exact h
    · exact absurd ⟨h0, u, hu, h⟩ hup
  have hlow' : 0 < n → ∀ h : n - 1 < vars.length, vars[n - 1] < vars[n] := fun h0 h => hlow _ h0 (List.getElem?_eq_getElem h)
  rcases Nat.eq_zero_or_pos n with hz | hz
  · simp (disch := omega) [leT, leF, ltT, ltF, ltTn, ltFn, get_in, sub1', -Int.natCast_add]
    refine W_up tab.length (fun m => [(1, .ptr 0 0), (3, .int .i64 n), (4, .bool (anyU tab n m)), (5, .int .i64 m)])
      (fun _ => [some (.cells [.vs (ints .i64 vars) .no, .vs (nats .u32 tab) .no])]) (fun _ => True) ?_ ?_
    · simp [keep_cl, trunc, anyU]
    intro m hm _
    by_cases hml : m < tab.length
    · have hin := tab_in h4 h7 hlt m hml
      have hx1 : tab[m]? = some tab[m] := List.getElem?_eq_getElem hml
      have hx2 : tab[m ^^^ 2 ^ n]? = some (tab[m ^^^ 2 ^ n]'hin) := List.getElem?_eq_getElem hin
      have hstep : anyU tab n (m + 1) = (anyU tab n m || tab[m] != tab[m ^^^ 2 ^ n]'hin) := by
        simp only [anyU, List.range_succ, List.any_append, List.any_cons, List.any_nil, Bool.or_false, hx1, hx2]
        congr 1
      cases hu : anyU tab n m
      · rw [hu, Bool.false_or] at hstep
        simp (disch := omega) [ltT, get_in, -Int.natCast_add, -Int.natCast_pow]
        refine callP_of (turned_ok hG m n (by omega) (by omega)) ?_
        have hx3 : ((tab[m] : Int) != (tab[m ^^^ 2 ^ n]'hin : Int)) = (tab[m] != tab[m ^^^ 2 ^ n]'hin) := by
          rw [Bool.eq_iff_iff]; simp
        simp (disch := omega) [get_in, add1', keep_cl, trunc, hml, hin, hstep, hx3, -Int.natCast_add, -Int.natCast_pow]
      · rw [hu, Bool.true_or] at hstep
        simp (disch := omega) [ltT, add1', keep_cl, trunc, hml, hstep, -Int.natCast_add]
    · have hne : m = tab.length := by omega
      have hcu : anyU tab n m = cnt tab n := by rw [hne]; rfl
      cases hc : cnt tab n
      · have := hbad (by rintro ⟨v, _, _, _, _, hh⟩; rw [hc] at hh; cases hh)
        simp (disch := omega) [ltF, hcu, hc, this]
      · have := hgood ⟨_, h1, by omega, hb, hlow, hc⟩
        simp (disch := omega) [ltF, hcu, hc, add1', keep_cl, trunc, hlt, -Int.natCast_add]
        exact this
  · have hl1 := hlow' hz (by omega)
    simp (disch := omega) [leT, leF, ltT, ltF, ltTn, ltFn, get_in, sub1', -Int.natCast_add]
    refine W_up tab.length (fun m => [(1, .ptr 0 0), (3, .int .i64 n), (4, .bool (anyU tab n m)), (5, .int .i64 m)])
      (fun _ => [some (.cells [.vs (ints .i64 vars) .no, .vs (nats .u32 tab) .no])]) (fun _ => True) ?_ ?_
    · simp [keep_cl, trunc, anyU]
    intro m hm _
    by_cases hml : m < tab.length
    · have hin := tab_in h4 h7 hlt m hml
      have hx1 : tab[m]? = some tab[m] := List.getElem?_eq_getElem hml
      have hx2 : tab[m ^^^ 2 ^ n]? = some (tab[m ^^^ 2 ^ n]'hin) := List.getElem?_eq_getElem hin
      have hstep : anyU tab n (m + 1) = (anyU tab n m || tab[m] != tab[m ^^^ 2 ^ n]'hin) := by
        simp only [anyU, List.range_succ, List.any_append, List.any_cons, List.any_nil, Bool.or_false, hx1, hx2]
        congr 1
      cases hu : anyU tab n m
      · rw [hu, Bool.false_or] at hstep
        simp (disch := omega) [ltT, get_in, -Int.natCast_add, -Int.natCast_pow]
        refine callP_of (turned_ok hG m n (by omega) (by omega)) ?_
        have hx3 : ((tab[m] : Int) != (tab[m ^^^ 2 ^ n]'hin : Int)) = (tab[m] != tab[m ^^^ 2 ^ n]'hin) := by
          rw [Bool.eq_iff_iff]; simp
        simp (disch := omega) [get_in, add1', keep_cl, trunc, hml, hin, hstep, hx3, -Int.natCast_add, -Int.natCast_pow]
      · rw [hu, Bool.true_or] at hstep
        simp (disch := omega) [ltT, add1', keep_cl, trunc, hml, hstep, -Int.natCast_add]
    · have hne : m = tab.length := by omega
      have hcu : anyU tab n m = cnt tab n := by rw [hne]; rfl
      cases hc : cnt tab n
      · have := hbad (by rintro ⟨v, _, _, _, _, hh⟩; rw [hc] at hh; cases hh)
        simp (disch := omega) [ltF, hcu, hc, this]
      · have := hgood ⟨_, h1, by omega, hb, hlow, hc⟩
        simp (disch := omega) [ltF, hcu, hc, add1', keep_cl, trunc, hlt, -Int.natCast_add]
        exact this

/-- The variables of both, as the document says. -/
def bothL (a b : List Int) (n : Nat) : List Int := ((List.range n).map fun (i : Nat) => (i : Int)).filter fun v => v ∈ a ∨ v ∈ b
theorem bothL_succ (a b : List Int) (n : Nat) : bothL a b (n + 1) = bothL a b n ++ (if (n : Int) ∈ a ∨ (n : Int) ∈ b then [(n : Int)] else []) := by
  simp only [bothL, List.range_succ, List.map_append, List.filter_append, List.map_cons, List.map_nil]
  congr 1
  by_cases h : (n : Int) ∈ a ∨ (n : Int) ∈ b
  · simp [h]
  · rw [if_neg h]; simpa using h
theorem bothL_len (a b : List Int) (n : Nat) : (bothL a b n).length ≤ n := by
  have := List.length_filter_le (fun v => decide (v ∈ a ∨ v ∈ b)) ((List.range n).map fun (i : Nat) => (i : Int))
  simpa [bothL] using this
theorem bothL_mer {a b : List Int} (ha : Up a) (hb : Up b) (h1 : ∀ v ∈ a, 0 ≤ v ∧ v < 34) (h2 : ∀ v ∈ b, 0 ≤ v ∧ v < 34) : bothL a b 34 = mer a b := by
  refine up_ext ?_ (mer_up a b ha hb) fun v => ?_
  · refine List.Pairwise.filter _ ?_
    rw [List.pairwise_map]
    exact List.pairwise_lt_range.imp fun h => by omega
  · simp only [bothL, List.mem_filter, List.mem_map, List.mem_range, decide_eq_true_eq, mem_mer]
    constructor
    · exact fun h => h.2
    · intro h
      refine ⟨⟨v.toNat, ?_, ?_⟩, h⟩ <;> (rcases h with h | h <;> first | (have := h1 v h; omega) | (have := h2 v h; omega))
theorem mem_take_succ {l : List Int} {j : Nat} (hj : j < l.length) (v : Int) : v ∈ l.take (j + 1) ↔ v ∈ l.take j ∨ l[j] = v := by
  rw [List.take_add_one, List.getElem?_eq_getElem hj]
  simp only [Option.toList_some, List.mem_append, List.mem_singleton]
  constructor <;> (rintro (h | h) <;> simp [h])
theorem Both_ok (hG : HasRef15 G) (fv gv : List Int) (ft gt : List Nat) (hf : fv.length ≤ 9223372036854775806) (hg : gv.length ≤ 9223372036854775806) :
    FP G 116 [FV fv ft, FV gv gt] (.vs (ints .i64 (bothL fv gv 34)) .no) := by
  refine FP_of hG.h_hurdleref15_Both (Nat.le_of_ble_eq_true rfl) ?_
  simp [FV]
  refine W_up 34 (fun v => [(2, .ptr 0 0), (3, .ptr 1 0), (5, .vs (ints .i64 (bothL fv gv v)) (.own 2)), (6, .int .i64 v)])
    (fun v => [some (.cells [.vs (ints .i64 fv) .no, .vs (nats .u32 ft) .no]), some (.cells [.vs (ints .i64 gv) .no, .vs (nats .u32 gt) .no]), some (.zone (bothL fv gv v).length)]) (fun _ => True) ?_ ?_
  · simp [keep_cl, trunc, bothL]
  intro v hv _
  by_cases hlt : v < 34
  case neg =>
    have hne : v = 34 := by omega
    subst hne
    simp
  have hbl := bothL_len fv gv v
  simp (disch := omega) [ltT, -Int.natCast_add, -Bool.decide_or]
  refine W_up fv.length (fun j => [(2, .ptr 0 0), (3, .ptr 1 0), (5, .vs (ints .i64 (bothL fv gv v)) (.own 2)), (6, .int .i64 v), (7, .bool (decide ((v : Int) ∈ fv.take j))), (8, .int .i64 j)])
    (fun _ => [some (.cells [.vs (ints .i64 fv) .no, .vs (nats .u32 ft) .no]), some (.cells [.vs (ints .i64 gv) .no, .vs (nats .u32 gt) .no]), some (.zone (bothL fv gv v).length)]) (fun _ => True) ?_ ?_
  · simp [keep_cl, trunc]
  intro j hj _
  by_cases hjl : j < fv.length
  · have hs := mem_take_succ hjl (v : Int)
    by_cases hu : (v : Int) ∈ fv.take j
    · have : (v : Int) ∈ fv.take (j + 1) := hs.2 (.inl hu)
      simp (disch := omega) [ltT, hu, this, add1', keep_cl, trunc, hjl, -Int.natCast_add, -Bool.decide_or]
    · have : ((v : Int) ∈ fv.take (j + 1)) = (fv[j] = (v : Int)) := propext (by rw [hs]; simp [hu])
      simp (disch := omega) [ltT, hu, get_in, this, add1', keep_cl, trunc, hjl, -Int.natCast_add, -Bool.decide_or]
      simp only [beqI]
  have hne : j = fv.length := by omega
  subst hne
  simp (disch := omega) [ltF, -Int.natCast_add, -Bool.decide_or]
  refine W_up gv.length (fun j => [(2, .ptr 0 0), (3, .ptr 1 0), (5, .vs (ints .i64 (bothL fv gv v)) (.own 2)), (6, .int .i64 v), (7, .bool (decide ((v : Int) ∈ fv ∨ (v : Int) ∈ gv.take j))), (9, .int .i64 j)])
    (fun _ => [some (.cells [.vs (ints .i64 fv) .no, .vs (nats .u32 ft) .no]), some (.cells [.vs (ints .i64 gv) .no, .vs (nats .u32 gt) .no]), some (.zone (bothL fv gv v).length)]) (fun _ => True) ?_ ?_
  · simp [keep_cl, trunc]
  intro j hj _
  by_cases hjl : j < gv.length
  · have hs := mem_take_succ hjl (v : Int)
    by_cases hu : (v : Int) ∈ fv ∨ (v : Int) ∈ gv.take j
    · have h2 : ((v : Int) ∈ fv ∨ (v : Int) ∈ gv.take (j + 1)) := hu.imp id fun h => hs.2 (.inl h)
      simp (disch := omega) [ltT, hu, h2, add1', keep_cl, trunc, hjl, -Int.natCast_add, -Bool.decide_or]
    · have h2 : ((v : Int) ∈ fv ∨ (v : Int) ∈ gv.take (j + 1)) = (gv[j] = (v : Int)) := propext (by rw [hs]; simp only [not_or] at hu; simp [hu.1, hu.2])
      simp (disch := omega) [ltT, hu, get_in, h2, add1', keep_cl, trunc, hjl, -Int.natCast_add, -Bool.decide_or]
      simp only [beqI]
  have hne : j = gv.length := by omega
  subst hne
  by_cases hm : (v : Int) ∈ fv ∨ (v : Int) ∈ gv
  · have hstep : bothL fv gv (v + 1) = bothL fv gv v ++ [(v : Int)] := by rw [bothL_succ, if_pos hm]
    simp (disch := omega) [ltF, hm, leTn, hstep, add1', keep_cl, trunc, hlt, -Int.natCast_add, -Bool.decide_or]
  · have hstep : bothL fv gv (v + 1) = bothL fv gv v := by rw [bothL_succ, if_neg hm, List.append_nil]
    simp (disch := omega) [ltF, hm, hstep, add1', keep_cl, trunc, hlt, -Int.natCast_add, -Bool.decide_or]
end Go.Ev

/- What the functions of hurdleref15 and hurdleref01 compute: the rest. -/
namespace Go.Ev
open Go Go.RowKit
variable {G : Tbl}
set_option maxRecDepth 10000
set_option maxHeartbeats 2000000
set_option linter.unusedSimpArgs false
set_option linter.unusedVariables false

theorem wrapU64 {n : Nat} (h : n < 18446744073709551616) : IntKind.u64.wrap (n : Int) = n := by
  show ((n : Int) % 18446744073709551616) = n
  omega
theorem convU64 {b : Nat} (hb : b < 18446744073709551616) : convI .u64 (b : Int) = (b : Int) := wrapU64 hb
theorem convU32 {b : Nat} (hb : b < 4294967296) : convI .u32 (b : Int) = (b : Int) := wrap_nat32 hb
theorem quoU64 {a b : Nat} (ha : a < 18446744073709551616) : quoI .u64 (a : Int) (b : Int) = ((a / b : Nat) : Int) := by
  unfold quoI
  rw [Int.tdiv_eq_ediv_of_nonneg (by omega)]
  have h : ((a : Int) / (b : Int)) = ((a / b : Nat) : Int) := by rw [Int.natCast_ediv]
  rw [h]
  exact wrapU64 (Nat.lt_of_le_of_lt (Nat.div_le_self a b) ha)
theorem addU64 {a b : Nat} (h : a + b < 18446744073709551616) : addI .u64 (a : Int) (b : Int) = ((a + b : Nat) : Int) := by
  unfold addI; rw [← Int.natCast_add]; exact wrapU64 h
theorem mulU64 {a b : Nat} (h : a * b < 18446744073709551616) : mulI .u64 (a : Int) (b : Int) = ((a * b : Nat) : Int) := by
  unfold mulI; rw [← Int.natCast_mul]; exact wrapU64 h

theorem Assign_ok (hG : HasRef15 G) (vs : List Int) (n : Nat) (hv : vs.length ≤ 60) (hm : ∀ v ∈ vs, 0 ≤ v ∧ v < 34) (hnd : vs.Nodup) (hn : n < 2 ^ 62) :
    FP G 117 [.vs (ints .i64 vs) .no, .int .i64 n] (.vs (nats .u32 (asgn vs (say vs n))) .no) := by
  refine FP_of hG.h_hurdleref15_Assign (Nat.le_of_ble_eq_true rfl) ?_
  simp
  refine W_up vs.length (fun j => [(0, .vs (ints .i64 vs) .no), (1, .int .i64 n), (5, .rs 0 0 34 1), (6, .int .i64 j)])
    (fun j => [some (.cells (cnats .u32 (asgn (vs.take j) (say vs n))))]) (fun _ => True) ?_ ?_
  · simp [keep_cl, trunc, asgn_nil]
  intro j hj _
  by_cases hjl : j < vs.length
  · have hm1 := hm _ (List.getElem_mem hjl)
    have hlen : (asgn (vs.take j) (say vs n)).length = 34 := by simp [asgn]
    have hset := cnats_set .u32 (asgn (vs.take j) (say vs n)) vs[j].toNat
    have hstep := asgn_step hnd (say vs n) hjl hm1.1
    have hsay : say vs n vs[j] = n.testBit j := by simp only [say]; rw [List.Nodup.idxOf_getElem hnd]
    rw [hsay] at hstep
    have hbit := toNat_bit n j
    have h0 : 0 < 2 ^ j := Nat.two_pow_pos j
    simp (disch := omega) [ltT, -Int.natCast_add]
    refine callP_of (size_ok hG j (by omega)) ?_
    cases hbb : n.testBit j
    · rw [hbb] at hstep hbit
      have hself : (asgn (vs.take j) (say vs n)).set vs[j].toNat 0 = asgn (vs.take j) (say vs n) := by
        refine List.ext_getElem (by simp) fun i h1 h2 => ?_
        rw [List.getElem_set]
        split
        · rename_i e
          simp only [asgn, List.getElem_map, List.getElem_range]
          have : (i : Int) = vs[j] := by omega
          rw [this, hsay, hbb]; simp
        · rfl
      rw [if_neg (by simp), hself] at hstep
      simp (disch := omega) [eqF, quo64, rem2, hbit, add1', keep_cl, trunc, hjl, hstep, -Int.natCast_add, -Int.natCast_pow, -Int.natCast_ediv, -Int.natCast_emod]
    · rw [hbb] at hstep hbit
      rw [if_pos rfl] at hstep
      have hs0 := hset 4294967295 (by omega)
      simp (disch := omega) [eqF, quo64, rem2, hbit, get_in, leT, ltT, leTn, hlen, add1', keep_cl, trunc, hjl, hstep, -Int.natCast_add, -Int.natCast_pow, -Int.natCast_ediv, -Int.natCast_emod]
      exact (congrArg (clL 1) hs0).trans (cnats_cl 1 _ _)
  · have hne : j = vs.length := by omega
    subst hne
    have hlen : (asgn vs (say vs n)).length = 34 := by simp [asgn]
    have hch := cnats_chunks .u32 (asgn vs (say vs n))
    rw [hlen] at hch
    have hall := cnats_pure .u32 (asgn vs (say vs n))
    simp (disch := omega) [ltF, hlen]
    simp [nats, ← hch]

theorem bit_ok (hG : HasRef15 G) (w i : Nat) (hw : w < 4294967296) (hi : i ≤ 60) : FP G 118 [.int .u32 w, .int .i64 i] (.int .i64 ((w.testBit i).toNat : Nat)) := by
  have h0 : 0 < 2 ^ i := Nat.two_pow_pos i
  have h1 : 2 ^ i ≤ 2 ^ 60 := Nat.pow_le_pow_right (by decide) hi
  have h2 := toNat_bit w i
  have h3 : w / 2 ^ i < 18446744073709551616 := Nat.lt_of_le_of_lt (Nat.div_le_self _ _) (by omega)
  have h4 : (w.testBit i).toNat < 2 := by cases w.testBit i <;> simp
  refine FP_of hG.h_hurdleref15_bit (Nat.le_of_ble_eq_true rfl) ?_
  simp [-Int.natCast_pow]
  refine callP_of (size_ok hG i (by omega)) ?_
  simp (disch := omega) [convU64, quoU64, rem2, eqF, h2, conv64, -Int.natCast_pow, -Int.natCast_ediv, -Int.natCast_emod]
theorem SameR_ok (hG : HasRef15 G) (v v' : List Int) (t t' : List Nat) (h1 : v.length ≤ 9223372036854775807) (h2 : t.length ≤ 9223372036854775807) :
    FP G 123 [FV v t, FV v' t'] (.bool (decide (v = v' ∧ t = t'))) := by
  refine FP_of hG.h_hurdleref15_Same (Nat.le_of_ble_eq_true rfl) ?_
  simp [FV]
  by_cases hv : v.length = v'.length
  · by_cases ht : t.length = t'.length
    · simp (disch := omega) [bneF]
      refine W_up v.length (fun n => [(2, .ptr 0 0), (3, .ptr 1 0), (5, .int .i64 n)])
        (fun _ => [some (.cells [.vs (ints .i64 v) .no, .vs (nats .u32 t) .no]), some (.cells [.vs (ints .i64 v') .no, .vs (nats .u32 t') .no])]) (fun n => ∀ m, m < n → v[m]? = v'[m]?) ?_ ?_
      · simp [keep_cl, trunc]
      intro n hn hall
      by_cases hlt : n < v.length
      · simp (disch := omega) [ltT, get_in, add1', -Int.natCast_add]
        rw [condW_bool]
        split
        · rename_i he
          have : v ≠ v' := fun e => by subst e; simp at he
          simp [this]
        · rename_i he
          simp at he
          simp (disch := omega) [add1', hlt, keep_cl, trunc, -Int.natCast_add]
          intro m hm
          by_cases hmn : m = n
          · subst hmn; rw [List.getElem?_eq_getElem hlt, List.getElem?_eq_getElem (by omega), he]
          · exact hall m (by omega)
      · have hvv : v = v' := eq_of_get hv (by have : n = v.length := by omega
                                              subst this; exact hall)
        subst hvv
        simp (disch := omega) [ltF]
        refine W_up t.length (fun n => [(2, .ptr 0 0), (3, .ptr 1 0), (6, .int .i64 n)])
          (fun _ => [some (.cells [.vs (ints .i64 v) .no, .vs (nats .u32 t) .no]), some (.cells [.vs (ints .i64 v) .no, .vs (nats .u32 t') .no])]) (fun n => ∀ m, m < n → t[m]? = t'[m]?) ?_ ?_
        · simp [keep_cl, trunc]
        intro n hn hall
        by_cases hlt : n < t.length
        · simp (disch := omega) [ltT, get_in, add1', -Int.natCast_add]
          rw [condW_bool]
          split
          · rename_i he
            have : t ≠ t' := fun e => by subst e; simp at he
            simp [this]
          · rename_i he
            simp at he
            simp (disch := omega) [add1', hlt, keep_cl, trunc, -Int.natCast_add]
            intro m hm
            by_cases hmn : m = n
            · subst hmn; rw [List.getElem?_eq_getElem hlt, List.getElem?_eq_getElem (by omega), he]
            · exact hall m (by omega)
        · have htt : t = t' := eq_of_get ht (by have : n = t.length := by omega
                                                subst this; exact hall)
          subst htt
          simp (disch := omega) [ltF]
    · simp (disch := omega) [bneT, bneF]
      intro h e; subst e; exact ht rfl
  · simp (disch := omega) [bneT]
    intro e; subst e; exact absurd rfl hv


theorem EvalR_ok (hG : HasRef15 G) (vs : List Int) (tab : List Nat) (r : List Nat) (R : Right vs tab) (ht : ∀ w ∈ tab, w < 4294967296) (hr : r.length = 34) (hrw : ∀ w ∈ r, w < 4294967296) :
    FP G 119 [FV vs tab, .vs (nats .u32 r) .no] (.int .u32 (val vs tab (asg r) : Nat)) := by
  have h4 := R.1
  refine FP_of hG.h_hurdleref15_Eval (Nat.le_of_ble_eq_true rfl) ?_
  simp [FV]
  refine W_up 32 (fun i => [(1, .vs (nats .u32 r) .no), (2, .ptr 0 0), (5, .int .u64 (wordOf (fun i => (sem vs tab fun v => (asg r v).testBit i).testBit i) i : Nat)), (6, .int .i64 i)])
    (fun _ => [some (.cells [.vs (ints .i64 vs) .no, .vs (nats .u32 tab) .no])]) (fun _ => True) ?_ ?_
  · simp [keep_cl, trunc, wordOf]
  intro i hi _
  by_cases hlt : i < 32
  · simp (disch := omega) [ltT, -Int.natCast_add]
    refine W_up vs.length (fun j => [(1, .vs (nats .u32 r) .no), (2, .ptr 0 0), (5, .int .u64 (wordOf (fun i => (sem vs tab fun v => (asg r v).testBit i).testBit i) i : Nat)), (6, .int .i64 i), (7, .int .i64 (idx (vs.take j) (fun v => (asg r v).testBit i) : Nat)), (8, .int .i64 j)])
      (fun _ => [some (.cells [.vs (ints .i64 vs) .no, .vs (nats .u32 tab) .no])]) (fun _ => True) ?_ ?_
    · simp [keep_cl, trunc, idx]
    intro j hj _
    by_cases hjl : j < vs.length
    · have hm := R.mem (List.getElem_mem hjl)
      have hx : vs[j].toNat < r.length := by omega
      have hrx := hrw _ (List.getElem_mem hx)
      have hk : idx (vs.take j) (fun v => (asg r v).testBit i) < 2 ^ j := by have := idx_lt (vs.take j) (fun v => (asg r v).testBit i); rwa [List.length_take, Nat.min_eq_left (by omega)] at this
      have h30 : 2 ^ j ≤ 2 ^ 30 := Nat.pow_le_pow_right (by decide) (by omega)
      have h2 : (r[vs[j].toNat].testBit i).toNat ≤ 1 := by cases r[vs[j].toNat].testBit i <;> simp
      have h3 : 2 ^ j * (r[vs[j].toNat].testBit i).toNat ≤ 2 ^ j * 1 := Nat.mul_le_mul_left _ h2
      have h5 : idx (vs.take (j + 1)) (fun v => (asg r v).testBit i) = idx (vs.take j) (fun v => (asg r v).testBit i) + 2 ^ j * (r[vs[j].toNat].testBit i).toNat := by
        rw [List.take_add_one, idx_append, List.getElem?_eq_getElem hjl, List.length_take, Nat.min_eq_left (by omega)]
        have : asg r vs[j] = r[vs[j].toNat] := by simp [asg, List.getD_eq_getElem?_getD, hx]
        simp only [Option.toList_some, idx, this, Nat.mul_zero, Nat.add_zero]
      simp (disch := omega) [ltT, -Int.natCast_add]
      refine callP_of (size_ok hG j (by omega)) ?_
      simp (disch := omega) [ltT, leT, get_in, -Int.natCast_add, -Int.natCast_pow]
      refine callP_of (bit_ok hG _ i hrx (by omega)) ?_
      simp (disch := omega) [mulN, addN, add1', keep_cl, trunc, hjl, h5, -Int.natCast_add, -Int.natCast_mul, -Int.natCast_pow]
    · have hne : j = vs.length := by omega
      subst hne
      have hk := idx_lt vs (fun v => (asg r v).testBit i)
      rw [← R.2.1] at hk
      have hw := ht _ (List.getElem_mem hk)
      have hp : 2 ^ i ≤ 2 ^ 31 := Nat.pow_le_pow_right (by decide) (by omega)
      have hu : wordOf (fun i => (sem vs tab fun v => (asg r v).testBit i).testBit i) i < 2 ^ i := wordOf_lt _ i
      have hs : sem vs tab (fun v => (asg r v).testBit i) = tab[idx vs (fun v => (asg r v).testBit i)] := by simp [sem, List.getD_eq_getElem?_getD, hk]
      have h2 : (tab[idx vs (fun v => (asg r v).testBit i)].testBit i).toNat ≤ 1 := by cases tab[idx vs (fun v => (asg r v).testBit i)].testBit i <;> simp
      have h3 : 2 ^ i * (tab[idx vs (fun v => (asg r v).testBit i)].testBit i).toNat ≤ 2 ^ i * 1 := Nat.mul_le_mul_left _ h2
      have hstep : wordOf (fun i => (sem vs tab fun v => (asg r v).testBit i).testBit i) (i + 1) = wordOf (fun i => (sem vs tab fun v => (asg r v).testBit i).testBit i) i + 2 ^ i * (tab[idx vs (fun v => (asg r v).testBit i)].testBit i).toNat := by simp only [wordOf, hs]
      simp (disch := omega) [ltF, -Int.natCast_add]
      refine callP_of (size_ok hG i (by omega)) ?_
      simp (disch := omega) [leT, get_in, -Int.natCast_add, -Int.natCast_pow]
      refine callP_of (bit_ok hG _ i hw (by omega)) ?_
      simp (disch := omega) [mulN, convU64, addU64, add1', keep_cl, trunc, hlt, hstep, -Int.natCast_add, -Int.natCast_mul, -Int.natCast_pow]
  · have hne : i = 32 := by omega
    subst hne
    have hu : val vs tab (asg r) < 2 ^ 32 := wordOf_lt _ 32
    have hc := convU32 hu
    simp only [val] at hc
    simp [val, hc]

theorem era_yes {vs : List Int} {i j : Nat} (h : i < vs.length) (hij : i ≠ j) : (vs.take (i + 1)).eraseIdx j = (vs.take i).eraseIdx j ++ [vs[i]] := by
  rw [List.take_add_one, List.getElem?_eq_getElem h]
  have hl : (vs.take i).length = i := by rw [List.length_take]; omega
  rcases Nat.lt_or_ge j i with h2 | h2
  · rw [List.eraseIdx_append_of_lt_length (by omega)]; rfl
  · rw [List.eraseIdx_append_of_length_le (by omega), List.eraseIdx_of_length_le (l := vs.take i) (by omega), hl]
    obtain ⟨k, hk⟩ : ∃ k, j - i = k + 1 := ⟨j - i - 1, by omega⟩
    rw [hk]; rfl
theorem era_no {vs : List Int} {i : Nat} (h : i < vs.length) : (vs.take (i + 1)).eraseIdx i = (vs.take i).eraseIdx i := by
  have hl : (vs.take i).length = i := by rw [List.length_take]; omega
  rw [List.take_add_one, List.getElem?_eq_getElem h, List.eraseIdx_append_of_length_le (by omega), List.eraseIdx_of_length_le (l := vs.take i) (by omega), hl, Nat.sub_self]
  simp
theorem without_ok (hG : HasRef15 G) (vs : List Int) (tab : List Nat) (j : Nat) (hv : vs.length ≤ 1000) (ht : tab.length ≤ 100000) (hj : j ≤ 60) :
    FP G 120 [FV vs tab, .int .i64 j] (FV (vs.eraseIdx j) (remT tab j)) := by
  refine FP_of hG.h_hurdleref15_without (Nat.le_of_ble_eq_true rfl) ?_
  simp [FV]
  refine W_up vs.length (fun i => [(1, .int .i64 j), (2, .ptr 0 0), (4, .ptr 1 0), (5, .ptr 2 0), (6, .int .i64 i)])
    (fun i => [some (.cells [.vs (ints .i64 vs) .no, .vs (nats .u32 tab) .no]), some (.cells [.vs [] .full, .vs [] .full]), some (.cells [.vs (ints .i64 ((vs.take i).eraseIdx j)) (.own 3), .vs [] .full]), some (.zone ((vs.take i).eraseIdx j).length)]) (fun _ => True) ?_ ?_
  · simp [keep_cl, trunc]
  intro i hi _
  by_cases hlt : i < vs.length
  · have hle : ((vs.take i).eraseIdx j).length ≤ i := Nat.le_trans (List.length_eraseIdx_le _ _) (by rw [List.length_take]; omega)
    by_cases hij : i = j
    · have hstep : (vs.take (i + 1)).eraseIdx j = (vs.take i).eraseIdx j := by subst hij; exact era_no hlt
      simp (disch := omega) [ltT, bneF, add1', keep_cl, trunc, hlt, hstep, -Int.natCast_add]
    · have hstep := era_yes hlt hij
      simp (disch := omega) [ltT, bneT, get_in, leTn, add1', keep_cl, trunc, hlt, hstep, -Int.natCast_add]
  have hne : i = vs.length := by omega
  subst hne
  simp (disch := omega) [ltF, -Int.natCast_add]
  refine W_up tab.length (fun n => [(1, .int .i64 j), (2, .ptr 0 0), (4, .ptr 1 0), (5, .ptr 2 0), (7, .int .i64 n)])
    (fun n => [some (.cells [.vs (ints .i64 vs) .no, .vs (nats .u32 tab) .no]), some (.cells [.vs [] .full, .vs [] .full]), some (.cells [.vs (ints .i64 (vs.eraseIdx j)) (.own 3), .vs (nats .u32 (preT tab j n)) (.own 4)]), some (.zone (vs.eraseIdx j).length), some (.zone (preT tab j n).length)]) (fun _ => True) ?_ ?_
  · simp [keep_cl, trunc, preT]
  intro n hn _
  by_cases hlt : n < tab.length
  · have hpl := preT_len tab j n
    have h0 : 0 < 2 ^ j := Nat.two_pow_pos j
    simp (disch := omega) [ltT, -Int.natCast_add]
    refine callP_of (size_ok hG j (by omega)) ?_
    have hbit := toNat_bit n j
    cases hb : n.testBit j
    · rw [hb] at hbit
      have hg : tab.getD n 0 = tab[n] := by simp [List.getD_eq_getElem?_getD, hlt]
      simp (disch := omega) [eqF, quo64, rem2, hbit, leTn, get_in, add1', keep_cl, trunc, hlt, preT_yes hb, hg, -Int.natCast_add, -Int.natCast_pow, -Int.natCast_ediv, -Int.natCast_emod]
    · rw [hb] at hbit
      simp (disch := omega) [eqF, quo64, rem2, hbit, add1', keep_cl, trunc, hlt, preT_no hb, -Int.natCast_add, -Int.natCast_pow, -Int.natCast_ediv, -Int.natCast_emod]
  · have hne : n = tab.length := by omega
    subst hne
    have : preT tab j tab.length = remT tab j := rfl
    simp (disch := omega) [ltF, this]
end Go.Ev

/- What the functions of hurdleref01 compute; and hurdleref15's Do and Apart. -/
namespace Go.Ev
open Go Go.RowKit
variable {G : Tbl}
set_option maxRecDepth 10000
set_option maxHeartbeats 2000000
set_option linter.unusedSimpArgs false
set_option linter.unusedVariables false

theorem rem_32 {a : Nat} : remI (a : Int) 32 = ((a % 32 : Nat) : Int) := rem64 (b := 32)
theorem rem_w {a : Nat} : remI (a : Int) 4294967296 = ((a % 4294967296 : Nat) : Int) := rem64 (b := 4294967296)
theorem addU32 {a b : Nat} (h : a + b < 4294967296) : addI .u32 (a : Int) (b : Int) = ((a + b : Nat) : Int) := by
  unfold addI; rw [← Int.natCast_add]; exact wrap_nat32 h
theorem addU32_1 {a : Nat} (h : a + 1 < 4294967296) : addI .u32 (a : Int) 1 = ((a + 1 : Nat) : Int) := addU32 (b := 1) h
theorem mulU32 {a b : Nat} (h : a * b < 4294967296) : mulI .u32 (a : Int) (b : Int) = ((a * b : Nat) : Int) := by
  unfold mulI; rw [← Int.natCast_mul]; exact wrap_nat32 h
theorem mulU32_2 {b : Nat} (h : 2 * b < 4294967296) : mulI .u32 2 (b : Int) = ((2 * b : Nat) : Int) := mulU32 (a := 2) h
theorem mulU64_2 {a : Nat} (h : a * 2 < 18446744073709551616) : mulI .u64 (a : Int) 2 = ((a * 2 : Nat) : Int) := mulU64 (b := 2) h

theorem power_ok (hG : HasR1 G) (n : Nat) (hn : n < 4294967296) : FP G 125 [.int .u32 n] (.int .u64 (2 ^ (n % 32) : Nat)) := by
  refine FP_of hG.h_hurdleref01_power (Nat.le_of_ble_eq_true rfl) ?_
  simp [-Int.natCast_pow]
  refine W_up (n % 32) (fun i => [(0, .int .u32 n), (3, .int .u64 (2 ^ i : Nat)), (4, .int .u32 i)]) (fun _ => []) (fun _ => True) ?_ ?_
  · simp [keep_cl, trunc, -Int.natCast_pow]
  intro i hi _
  by_cases hlt : i < n % 32
  · have h1 : 2 ^ i * 2 ≤ 2 ^ 62 := by rw [← Nat.pow_succ]; exact Nat.pow_le_pow_right (by decide) (by omega)
    simp (disch := omega) [rem_32, rem2, rem_w, ltT, mulU64_2, addU32_1, keep_cl, trunc, hlt, Nat.pow_succ, -Int.natCast_pow, -Int.natCast_add, -Int.natCast_mul, -Int.natCast_emod]
  · have hne : i = n % 32 := by omega
    subst hne
    simp (disch := omega) [rem_32, rem2, rem_w, ltF, -Int.natCast_pow, -Int.natCast_emod]
theorem bit1_ok (hG : HasR1 G) (a i : Nat) (ha : a < 4294967296) (hi : i < 32) : FP G 126 [.int .u32 a, .int .u32 i] (.int .u32 ((a.testBit i).toNat : Nat)) := by
  have h0 : 0 < 2 ^ (i % 32) := Nat.two_pow_pos _
  have he : i % 32 = i := Nat.mod_eq_of_lt hi
  have h2 := toNat_bit a i
  have h3 : (a.testBit i).toNat < 2 := by cases a.testBit i <;> simp
  refine FP_of hG.h_hurdleref01_bit (Nat.le_of_ble_eq_true rfl) ?_
  simp [-Int.natCast_pow]
  refine callP_of (power_ok hG i (by omega)) ?_
  simp (disch := omega) [convU64, quoU64, rem_32, rem2, rem_w, eqF, he, h2, convU32, -Int.natCast_pow, -Int.natCast_ediv, -Int.natCast_emod]

theorem bits_ok (hG : HasR1 G) (a b s0 s1 s2 s3 : Nat) (ha : a < 4294967296) (hb : b < 4294967296) (h0 : s0 ≤ 1) (h1 : s1 ≤ 1) (h2 : s2 ≤ 1) (h3 : s3 ≤ 1) :
    FP G 127 [.int .u32 a, .int .u32 b, .vs (nats .u32 [s0, s1, s2, s3]) .no]
      (.int .u32 (wordOf (fun i => ([s0, s1, s2, s3][2 * (a.testBit i).toNat + (b.testBit i).toNat]?.getD 0) == 1) 32 : Nat)) := by
  refine FP_of hG.h_hurdleref01_bits (Nat.le_of_ble_eq_true rfl) ?_
  simp
  refine W_up 32 (fun i => [(0, .int .u32 a), (1, .int .u32 b), (2, .vs (nats .u32 [s0, s1, s2, s3]) .no), (7, .int .u32 (wordOf (fun i => ([s0, s1, s2, s3][2 * (a.testBit i).toNat + (b.testBit i).toNat]?.getD 0) == 1) i : Nat)), (8, .int .u32 i)])
    (fun _ => []) (fun _ => True) ?_ ?_
  · simp [keep_cl, trunc, wordOf]
  intro i hi _
  by_cases hlt : i < 32
  case neg =>
    have hne : i = 32 := by omega
    subst hne
    simp
  have hx : (a.testBit i).toNat ≤ 1 := by cases a.testBit i <;> simp
  have hy : (b.testBit i).toNat ≤ 1 := by cases b.testBit i <;> simp
  simp (disch := omega) [ltT, -Int.natCast_add]
  refine callP_of (bit1_ok hG a i ha hlt) ?_
  simp
  refine callP_of (bit1_ok hG b i hb hlt) ?_
  generalize hk : 2 * (a.testBit i).toNat + (b.testBit i).toNat = k
  have hkl : k < [s0, s1, s2, s3].length := by simp; omega
  have hs1 : [s0, s1, s2, s3][k] ≤ 1 := by
    have : [s0, s1, s2, s3][k] ∈ [s0, s1, s2, s3] := List.getElem_mem hkl
    simp only [List.mem_cons, List.not_mem_nil, or_false] at this
    omega
  generalize hsay : [s0, s1, s2, s3] = says at *
  have hu := wordOf_lt (fun i => (says[2 * (a.testBit i).toNat + (b.testBit i).toNat]?.getD 0) == 1) i
  have hp : 2 ^ i ≤ 2 ^ 31 := Nat.pow_le_pow_right (by decide) (by omega)
  have he : i % 32 = i := Nat.mod_eq_of_lt hlt
  have hm : says[k] * 2 ^ i ≤ 1 * 2 ^ i := Nat.mul_le_mul_right _ hs1
  have hstep : wordOf (fun i => (says[2 * (a.testBit i).toNat + (b.testBit i).toNat]?.getD 0) == 1) (i + 1) = wordOf (fun i => (says[2 * (a.testBit i).toNat + (b.testBit i).toNat]?.getD 0) == 1) i + says[k] * 2 ^ i := by
    rw [wordOf]
    simp only [hk, List.getElem?_eq_getElem hkl, Option.getD_some]
    rcases Nat.le_one_iff_eq_zero_or_eq_one.1 hs1 with e | e <;> simp [e]
  simp (disch := omega) [mulU32_2, addU32, hk, conv64, leT, get_in, -Int.natCast_add, -Int.natCast_mul]
  refine callP_of (power_ok hG i (by omega)) ?_
  simp (disch := omega) [he, convU32, mulU32, addU32, addU32_1, keep_cl, trunc, hlt, hstep, -Int.natCast_add, -Int.natCast_mul, -Int.natCast_pow]

theorem bits_word {f : Nat → Bool} {w : Nat} (hw : w < 2 ^ 32) (h : ∀ i, i < 32 → f i = w.testBit i) : wordOf f 32 = w := by
  rw [wordOf_ext h, wordOf_self hw]
theorem DoR_ok (hG : HasR1 G) (kind : Int) (a b : Nat) (ha : a < 4294967296) (hb : b < 4294967296) :
    FP G 122 [.int .i64 kind, .int .u32 a, .int .u32 b] (.tup [.int .u32 ((doW kind a b).1 : Nat), .bool (doW kind a b).2]) := by
  refine FP_of hG.h_hurdleref01_Do (Nat.le_of_ble_eq_true rfl) ?_
  have hp : 2 ^ (b % 32) ≤ 2 ^ 31 := Nat.pow_le_pow_right (by decide) (by omega)
  have hp0 : 0 < 2 ^ (b % 32) := Nat.two_pow_pos _
  simp (disch := omega) [convU64]
  by_cases h : kind = 4
  · subst h; simp (disch := omega) [doW, addU64, rem_32, rem2, rem_w, convU32, -Int.natCast_add, -Int.natCast_emod]
  by_cases h : kind = 20
  · subst h
    have h1 : addI .u64 (a : Int) 4294967296 = ((a + 4294967296 : Nat) : Int) := addU64 (b := 4294967296) (by omega)
    have h2 : subI .u64 ((a + 4294967296 : Nat) : Int) (b : Int) = ((a + 4294967296 - b : Nat) : Int) := by
      unfold subI
      rw [← Int.natCast_sub (by omega)]
      exact wrapU64 (by omega)
    simp (disch := omega) [doW, h1, h2, rem_32, rem2, rem_w, convU32, -Int.natCast_add, -Int.natCast_emod]
  by_cases h : kind = 36
  · subst h
    have h1 : a * b < 18446744073709551616 := by
      have : a * b ≤ 4294967295 * 4294967295 := Nat.mul_le_mul (by omega) (by omega)
      omega
    simp (disch := omega) [doW, mulU64, rem_32, rem2, rem_w, convU32, -Int.natCast_mul, -Int.natCast_emod]
  by_cases h : kind = 52
  · subst h
    by_cases hz : b = 0
    · subst hz; simp [doW]
    · have h1 : a / b < 4294967296 := Nat.lt_of_le_of_lt (Nat.div_le_self _ _) ha
      simp (disch := omega) [doW, hz, beqF, quoU64, convU32, -Int.natCast_ediv]
  by_cases h : kind = 68
  · subst h
    simp
    refine callP_of (by simpa [nats] using bits_ok hG a b 0 1 1 1 ha hb (by decide) (by decide) (by decide) (by decide)) ?_
    have : wordOf (fun i => ([0, 1, 1, 1][2 * (a.testBit i).toNat + (b.testBit i).toNat]?.getD 0) == 1) 32 = a ||| b := bits_word (Nat.or_lt_two_pow ha hb) fun i hi => by
      rw [Nat.testBit_or]; cases a.testBit i <;> cases b.testBit i <;> rfl
    simp [doW, this]
  by_cases h : kind = 84
  · subst h
    simp
    refine callP_of (by simpa [nats] using bits_ok hG a b 0 0 0 1 ha hb (by decide) (by decide) (by decide) (by decide)) ?_
    have : wordOf (fun i => ([0, 0, 0, 1][2 * (a.testBit i).toNat + (b.testBit i).toNat]?.getD 0) == 1) 32 = a &&& b := bits_word (Nat.and_lt_two_pow _ hb) fun i hi => by
      rw [Nat.testBit_and]; cases a.testBit i <;> cases b.testBit i <;> rfl
    simp [doW, this]
  by_cases h : kind = 100
  · subst h
    simp
    refine callP_of (power_ok hG b hb) ?_
    have h1 : a * 2 ^ (b % 32) < 18446744073709551616 := by
      have : a * 2 ^ (b % 32) ≤ 4294967295 * 2 ^ 31 := Nat.mul_le_mul (by omega) hp
      omega
    simp (disch := omega) [doW, mulU64, rem_32, rem2, rem_w, convU32, -Int.natCast_mul, -Int.natCast_emod, -Int.natCast_pow]
  by_cases h : kind = 116
  · subst h
    simp
    refine callP_of (power_ok hG b hb) ?_
    have h1 : a / 2 ^ (b % 32) < 4294967296 := Nat.lt_of_le_of_lt (Nat.div_le_self _ _) ha
    simp (disch := omega) [doW, quoU64, convU32, eqF, -Int.natCast_ediv, -Int.natCast_pow]
  by_cases h : kind = 164
  · subst h
    simp
    refine callP_of (by simpa [nats] using bits_ok hG a b 0 1 1 0 ha hb (by decide) (by decide) (by decide) (by decide)) ?_
    have : wordOf (fun i => ([0, 1, 1, 0][2 * (a.testBit i).toNat + (b.testBit i).toNat]?.getD 0) == 1) 32 = a ^^^ b := bits_word (Nat.xor_lt_two_pow ha hb) fun i hi => by
      rw [Nat.testBit_xor]; cases a.testBit i <;> cases b.testBit i <;> rfl
    simp [doW, this]
  simp (disch := omega) [doW, beqF, *]
theorem NegR_ok [HasR1n G] (a : Nat) (ha : a < 4294967296) : FP G 173 [.int .u32 a] (.int .u32 (negW a : Nat)) := by
  refine FP_of HasR1n.h_hurdleref01_Neg (Nat.le_of_ble_eq_true rfl) ?_
  have c1 := convU64 (b := a) (by omega)
  have s1 : subI .u64 4294967296 (a : Int) = ((4294967296 - a : Nat) : Int) := by unfold subI; rw [show (4294967296 : Int) - (a : Int) = ((4294967296 - a : Nat) : Int) by omega]; exact IntWalk.u64_in _ ⟨by omega, by omega⟩
  have r1 : remI ((4294967296 - a : Nat) : Int) 4294967296 = ((negW a : Nat) : Int) := rem64 (b := 4294967296)
  have c2 : convI .u32 ((negW a : Nat) : Int) = ((negW a : Nat) : Int) := by unfold convI; exact wrap_nat32 (Nat.mod_lt _ (by decide))
  simp [c1, s1, r1, c2]

end Go.Ev
