/- What the functions of hurdleref15 and hurdleref01 compute. -/
import Derived.Test.YtnlhnffijidioaaDoorEvRef15C
import Derived.Test.YtnlhnffijidioaaDoorBitsF
namespace Go.Ev
open Go Go.RowKit
variable {G : Tbl}
set_option maxRecDepth 10000
set_option maxHeartbeats 2000000
set_option linter.unusedSimpArgs false
set_option linter.unusedVariables false

theorem mulN {a b : Nat} (h : a * b ≤ 9223372036854775807) : mulI .i64 (a : Int) (b : Int) = ((a * b : Nat) : Int) := by
  have h2 : ((a : Int) * (b : Int)) = ((a * b : Nat) : Int) := by rw [Int.natCast_mul]
  unfold mulI
  rw [h2]
  exact wrap_nat64 (by omega)
theorem mul2 {a : Nat} (h : a * 2 ≤ 9223372036854775807) : mulI .i64 (a : Int) 2 = ((a * 2 : Nat) : Int) := mulN (b := 2) h

theorem size_ok (hG : HasRef15 G) (n : Nat) (hn : n ≤ 62) : FP G 113 [.int .i64 n] (.int .i64 (2 ^ n : Nat)) := by
  refine FP_of hG.h_hurdleref15_size (Nat.le_of_ble_eq_true rfl) ?_
  simp [-Int.natCast_pow]
  refine W_up n (fun i => [(0, .int .i64 n), (3, .int .i64 (2 ^ i : Nat)), (4, .int .i64 i)]) (fun _ => []) (fun _ => True) ?_ ?_
  · simp [keep_cl, trunc, -Int.natCast_pow]
  intro i hi _
  by_cases hlt : i < n
  · have h1 : 2 ^ i * 2 ≤ 2 ^ 62 := by rw [← Nat.pow_succ]; exact Nat.pow_le_pow_right (by decide) (by omega)
    simp (disch := omega) [ltT, mul2, add1', keep_cl, trunc, hlt, Nat.pow_succ, -Int.natCast_pow, -Int.natCast_add, -Int.natCast_mul]
  · have hne : i = n := by omega
    subst hne
    simp (disch := omega) [ltF, -Int.natCast_pow]

theorem turned_eq (n j : Nat) : (if n / 2 ^ j % 2 = 1 then n - 2 ^ j else n + 2 ^ j) = n ^^^ 2 ^ j := by
  have hd := Nat.div_add_mod n (2 ^ j)
  have hm : n % 2 ^ j < 2 ^ j := Nat.mod_lt _ (Nat.two_pow_pos j)
  have key : ∀ q, q / 2 = n / 2 ^ j / 2 → q % 2 = 1 - n / 2 ^ j % 2 → 2 ^ j * q + n % 2 ^ j = n ^^^ 2 ^ j := by
    intro q h1 h2
    refine Nat.eq_of_testBit_eq fun i => ?_
    rw [Nat.testBit_two_pow_mul_add _ hm, Nat.testBit_xor, Nat.testBit_two_pow]
    by_cases hij : i < j
    · rw [if_pos hij, Nat.testBit_mod_two_pow]
      have : j ≠ i := by omega
      simp [hij, this]
    · rw [if_neg hij]
      have hn : n.testBit i = (n / 2 ^ j).testBit (i - j) := by rw [Nat.testBit_div_two_pow]; congr 1; omega
      rw [hn]
      by_cases h0 : i = j
      · subst h0
        simp only [Nat.sub_self, Nat.testBit_zero, decide_true]
        rcases Nat.mod_two_eq_zero_or_one (n / 2 ^ i) with h | h <;> rw [h] at h2 ⊢ <;> simp [h2]
      · have : j ≠ i := fun e => h0 e.symm
        obtain ⟨k, hk⟩ : ∃ k, i - j = k + 1 := ⟨i - j - 1, by omega⟩
        rw [hk, Nat.testBit_succ, Nat.testBit_succ, h1]; simp [this]
  generalize n / 2 ^ j = q at *
  generalize n % 2 ^ j = r at *
  split
  · rename_i h
    have h3 : 2 ^ j * (q - 1) + 2 ^ j = 2 ^ j * q := by
      rw [← Nat.mul_succ]; congr 1; omega
    have := key (q - 1) (by omega) (by omega)
    omega
  · rename_i h
    have h3 : 2 ^ j * (q + 1) = 2 ^ j * q + 2 ^ j := Nat.mul_succ _ _
    have := key (q + 1) (by omega) (by omega)
    omega
theorem rem2 {a : Nat} : remI (a : Int) 2 = ((a % 2 : Nat) : Int) := rem64 (b := 2)
theorem turned_ok (hG : HasRef15 G) (n j : Nat) (hn : n < 2 ^ 62) (hj : j ≤ 60) : FP G 114 [.int .i64 n, .int .i64 j] (.int .i64 (n ^^^ 2 ^ j : Nat)) := by
  have h1 : 2 ^ j ≤ 2 ^ 60 := Nat.pow_le_pow_right (by decide) hj
  have h0 : 0 < 2 ^ j := Nat.two_pow_pos j
  refine FP_of hG.h_hurdleref15_turned (Nat.le_of_ble_eq_true rfl) ?_
  simp [-Int.natCast_pow]
  refine callP_of (size_ok hG j (by omega)) ?_
  have ht := turned_eq n j
  by_cases h : n / 2 ^ j % 2 = 1
  · have hle : 2 ^ j ≤ n := by
      rcases Nat.lt_or_ge n (2 ^ j) with h2 | h2
      · rw [Nat.div_eq_of_lt h2] at h; omega
      · exact h2
    rw [if_pos h] at ht
    simp (disch := omega) [eqF, quo64, rem2, h, -Int.natCast_pow, -Int.natCast_ediv, -Int.natCast_emod]
    refine callP_of (size_ok hG j (by omega)) ?_
    have hs : subI .i64 (n : Int) ((2 ^ j : Nat) : Int) = ((n - 2 ^ j : Nat) : Int) := by rw [subI64] <;> omega
    simp [hs, ht, -Int.natCast_pow]
  · rw [if_neg h] at ht
    simp (disch := omega) [eqF, quo64, rem2, beqF, h, -Int.natCast_pow, -Int.natCast_ediv, -Int.natCast_emod]
    refine callP_of (size_ok hG j (by omega)) ?_
    simp (disch := omega) [addN, ht, -Int.natCast_pow]

def anyU (tab : List Nat) (j m : Nat) : Bool := (List.range m).any fun n => tab[n]? != tab[n ^^^ 2 ^ j]?
theorem RightR_ok (hG : HasRef15 G) (vars : List Int) (tab : List Nat) (hv : vars.length ≤ 9223372036854775807) (ht : tab.length ≤ 9223372036854775807) : FP G 115 [FV vars tab] (.bool (rightB vars tab)) := by
  refine FP_of hG.h_hurdleref15_Right (Nat.le_of_ble_eq_true rfl) ?_
  simp [FV]
  by_cases h4 : vars.length ≤ 4
  case neg => simp (disch := omega) [leT, leF, ltT, ltF]; simp [rightB, Right, h4]
  simp (disch := omega) [leT, leF, ltT, ltF]
  refine callP_of (size_ok hG vars.length (by omega)) ?_
  by_cases h7 : tab.length = 2 ^ vars.length
  case neg =>
    have h8 : ¬ ((tab.length : Int) = ((2 ^ vars.length : Nat) : Int)) := by
      simp only [Int.ofNat_inj]; exact h7
    simp [bneT h8, -Int.natCast_pow]
    simp [rightB, Right, h7]
  have hsm := tab_small h4 h7
  simp [h7, -Int.natCast_pow]
  refine W_up vars.length (fun n => [(1, .ptr 0 0), (3, .int .i64 n)])
    (fun _ => [some (.cells [.vs (ints .i64 vars) .no, .vs (nats .u32 tab) .no])]) (fun n => ∀ m, m < n → okAt vars tab m) ?_ ?_
  · simp [keep_cl, trunc]
  intro n hn hall
  by_cases hlt : n < vars.length
  case neg =>
    have hnl : n = vars.length := by omega
    subst hnl
    have : rightB vars tab = true := by simp only [rightB, decide_eq_true_eq]; exact ⟨h4, h7, hall⟩
    simp [this]
  have hbad : ¬ okAt vars tab n → rightB vars tab = false := fun h => by simp only [rightB, decide_eq_false_iff_not]; exact fun hR => h (hR.2.2 n hlt)
  have hgood : okAt vars tab n → ∀ m, m < n + 1 → okAt vars tab m := fun h m hm => by
    by_cases hmn : m = n
    · subst hmn; exact h
    · exact hall m (by omega)
  have h1 : vars[n]? = some vars[n] := List.getElem?_eq_getElem hlt
  by_cases ha : vars[n] < 0
  · have := hbad (by rintro ⟨v, hv, h0, _⟩; rw [h1] at hv; cases hv; omega)
    simp (disch := omega) [leT, leF, ltT, ltF, ltTn, ltFn, get_in, this]
  by_cases hb : vars[n] < 34
  case neg =>
    have := hbad (by rintro ⟨v, hv, h0, h2, _⟩; rw [h1] at hv; cases hv; omega)
    simp (disch := omega) [leT, leF, ltT, ltF, ltTn, ltFn, get_in, this]
  by_cases hup : 0 < n ∧ ∃ u, vars[n - 1]? = some u ∧ vars[n] ≤ u
  · obtain ⟨hn0, u, hu, hle⟩ := hup
    have := hbad (by rintro ⟨v, hv, _, _, h3, _⟩; rw [h1] at hv; cases hv; have := h3 u hn0 hu; omega)
    rw [List.getElem?_eq_getElem (by omega)] at hu
    have hu := Option.some.inj hu
    simp (disch := omega) [leT, leF, ltT, ltF, ltTn, ltFn, get_in, sub1', this, -Int.natCast_add]
  have hlow : ∀ u, 0 < n → vars[n - 1]? = some u → u < vars[n] := fun u h0 hu => by
    rcases Int.lt_or_le u vars[n] with h | h
    · exact h
    · exact absurd ⟨h0, u, hu, h⟩ hup
  have hlow' : 0 < n → ∀ h : n - 1 < vars.length, vars[n - 1] < vars[n] := fun h0 h => hlow _ h0 (List.getElem?_eq_getElem h)
  rcases Nat.eq_zero_or_pos n with hz | hz
  · simp (disch := omega) [leT, leF, ltT, ltF, ltTn, ltFn, get_in, sub1', -Int.natCast_add]
    refine W_up tab.length (fun m => [(1, .ptr 0 0), (3, .int .i64 n), (4, .bool (anyU tab n m)), (5, .int .i64 m)])
      (fun _ => [some (.cells [.vs (ints .i64 vars) .no, .vs (nats .u32 tab) .no])]) (fun _ => True) ?_ ?_
    · simp [keep_cl, trunc, anyU]
    intro m hm _
    by_cases hml : m < tab.length
    · have hin := tab_in h4 h7 hlt m hml
      have hx1 : tab[m]? = some tab[m] := List.getElem?_eq_getElem hml
      have hx2 : tab[m ^^^ 2 ^ n]? = some (tab[m ^^^ 2 ^ n]'hin) := List.getElem?_eq_getElem hin
      have hstep : anyU tab n (m + 1) = (anyU tab n m || tab[m] != tab[m ^^^ 2 ^ n]'hin) := by
        simp only [anyU, List.range_succ, List.any_append, List.any_cons, List.any_nil, Bool.or_false, hx1, hx2]
        congr 1
      cases hu : anyU tab n m
      · rw [hu, Bool.false_or] at hstep
        simp (disch := omega) [ltT, get_in, -Int.natCast_add, -Int.natCast_pow]
        refine callP_of (turned_ok hG m n (by omega) (by omega)) ?_
        have hx3 : ((tab[m] : Int) != (tab[m ^^^ 2 ^ n]'hin : Int)) = (tab[m] != tab[m ^^^ 2 ^ n]'hin) := by
          rw [Bool.eq_iff_iff]; simp
        simp (disch := omega) [get_in, add1', keep_cl, trunc, hml, hin, hstep, hx3, -Int.natCast_add, -Int.natCast_pow]
      · rw [hu, Bool.true_or] at hstep
        simp (disch := omega) [ltT, add1', keep_cl, trunc, hml, hstep, -Int.natCast_add]
    · have hne : m = tab.length := by omega
      have hcu : anyU tab n m = cnt tab n := by rw [hne]; rfl
      cases hc : cnt tab n
      · have := hbad (by rintro ⟨v, _, _, _, _, hh⟩; rw [hc] at hh; cases hh)
        simp (disch := omega) [ltF, hcu, hc, this]
      · have := hgood ⟨_, h1, by omega, hb, hlow, hc⟩
        simp (disch := omega) [ltF, hcu, hc, add1', keep_cl, trunc, hlt, -Int.natCast_add]
        exact this
  · have hl1 := hlow' hz (by omega)
    simp (disch := omega) [leT, leF, ltT, ltF, ltTn, ltFn, get_in, sub1', -Int.natCast_add]
    refine W_up tab.length (fun m => [(1, .ptr 0 0), (3, .int .i64 n), (4, .bool (anyU tab n m)), (5, .int .i64 m)])
      (fun _ => [some (.cells [.vs (ints .i64 vars) .no, .vs (nats .u32 tab) .no])]) (fun _ => True) ?_ ?_
    · simp [keep_cl, trunc, anyU]
    intro m hm _
    by_cases hml : m < tab.length
    · have hin := tab_in h4 h7 hlt m hml
      have hx1 : tab[m]? = some tab[m] := List.getElem?_eq_getElem hml
      have hx2 : tab[m ^^^ 2 ^ n]? = some (tab[m ^^^ 2 ^ n]'hin) := List.getElem?_eq_getElem hin
      have hstep : anyU tab n (m + 1) = (anyU tab n m || tab[m] != tab[m ^^^ 2 ^ n]'hin) := by
        simp only [anyU, List.range_succ, List.any_append, List.any_cons, List.any_nil, Bool.or_false, hx1, hx2]
        congr 1
      cases hu : anyU tab n m
      · rw [hu, Bool.false_or] at hstep
        simp (disch := omega) [ltT, get_in, -Int.natCast_add, -Int.natCast_pow]
        refine callP_of (turned_ok hG m n (by omega) (by omega)) ?_
        have hx3 : ((tab[m] : Int) != (tab[m ^^^ 2 ^ n]'hin : Int)) = (tab[m] != tab[m ^^^ 2 ^ n]'hin) := by
          rw [Bool.eq_iff_iff]; simp
        simp (disch := omega) [get_in, add1', keep_cl, trunc, hml, hin, hstep, hx3, -Int.natCast_add, -Int.natCast_pow]
      · rw [hu, Bool.true_or] at hstep
        simp (disch := omega) [ltT, add1', keep_cl, trunc, hml, hstep, -Int.natCast_add]
    · have hne : m = tab.length := by omega
      have hcu : anyU tab n m = cnt tab n := by rw [hne]; rfl
      cases hc : cnt tab n
      · have := hbad (by rintro ⟨v, _, _, _, _, hh⟩; rw [hc] at hh; cases hh)
        simp (disch := omega) [ltF, hcu, hc, this]
      · have := hgood ⟨_, h1, by omega, hb, hlow, hc⟩
        simp (disch := omega) [ltF, hcu, hc, add1', keep_cl, trunc, hlt, -Int.natCast_add]
        exact this

/-- The variables of both, as the document says. -/
def bothL (a b : List Int) (n : Nat) : List Int := ((List.range n).map fun (i : Nat) => (i : Int)).filter fun v => v ∈ a ∨ v ∈ b
theorem bothL_succ (a b : List Int) (n : Nat) : bothL a b (n + 1) = bothL a b n ++ (if (n : Int) ∈ a ∨ (n : Int) ∈ b then [(n : Int)] else []) := by
  simp only [bothL, List.range_succ, List.map_append, List.filter_append, List.map_cons, List.map_nil]
  congr 1
  by_cases h : (n : Int) ∈ a ∨ (n : Int) ∈ b
  · simp [h]
  · rw [if_neg h]; simpa using h
theorem bothL_len (a b : List Int) (n : Nat) : (bothL a b n).length ≤ n := by
  have := List.length_filter_le (fun v => decide (v ∈ a ∨ v ∈ b)) ((List.range n).map fun (i : Nat) => (i : Int))
  simpa [bothL] using this
theorem bothL_mer {a b : List Int} (ha : Up a) (hb : Up b) (h1 : ∀ v ∈ a, 0 ≤ v ∧ v < 34) (h2 : ∀ v ∈ b, 0 ≤ v ∧ v < 34) : bothL a b 34 = mer a b := by
  refine up_ext ?_ (mer_up a b ha hb) fun v => ?_
  · refine List.Pairwise.filter _ ?_
    rw [List.pairwise_map]
    exact List.pairwise_lt_range.imp fun h => by omega
  · simp only [bothL, List.mem_filter, List.mem_map, List.mem_range, decide_eq_true_eq, mem_mer]
    constructor
    · exact fun h => h.2
    · intro h
      refine ⟨⟨v.toNat, ?_, ?_⟩, h⟩ <;> (rcases h with h | h <;> first | (have := h1 v h; omega) | (have := h2 v h; omega))
theorem mem_take_succ {l : List Int} {j : Nat} (hj : j < l.length) (v : Int) : v ∈ l.take (j + 1) ↔ v ∈ l.take j ∨ l[j] = v := by
  rw [List.take_add_one, List.getElem?_eq_getElem hj]
  simp only [Option.toList_some, List.mem_append, List.mem_singleton]
  constructor <;> (rintro (h | h) <;> simp [h])
theorem Both_ok (hG : HasRef15 G) (fv gv : List Int) (ft gt : List Nat) (hf : fv.length ≤ 9223372036854775806) (hg : gv.length ≤ 9223372036854775806) :
    FP G 116 [FV fv ft, FV gv gt] (.vs (ints .i64 (bothL fv gv 34)) .no) := by
  refine FP_of hG.h_hurdleref15_Both (Nat.le_of_ble_eq_true rfl) ?_
  simp [FV]
  refine W_up 34 (fun v => [(2, .ptr 0 0), (3, .ptr 1 0), (5, .vs (ints .i64 (bothL fv gv v)) (.own 2)), (6, .int .i64 v)])
    (fun v => [some (.cells [.vs (ints .i64 fv) .no, .vs (nats .u32 ft) .no]), some (.cells [.vs (ints .i64 gv) .no, .vs (nats .u32 gt) .no]), some (.zone (bothL fv gv v).length)]) (fun _ => True) ?_ ?_
  · simp [keep_cl, trunc, bothL]
  intro v hv _
  by_cases hlt : v < 34
  case neg =>
    have hne : v = 34 := by omega
    subst hne
    simp
  have hbl := bothL_len fv gv v
  simp (disch := omega) [ltT, -Int.natCast_add, -Bool.decide_or]
  refine W_up fv.length (fun j => [(2, .ptr 0 0), (3, .ptr 1 0), (5, .vs (ints .i64 (bothL fv gv v)) (.own 2)), (6, .int .i64 v), (7, .bool (decide ((v : Int) ∈ fv.take j))), (8, .int .i64 j)])
    (fun _ => [some (.cells [.vs (ints .i64 fv) .no, .vs (nats .u32 ft) .no]), some (.cells [.vs (ints .i64 gv) .no, .vs (nats .u32 gt) .no]), some (.zone (bothL fv gv v).length)]) (fun _ => True) ?_ ?_
  · simp [keep_cl, trunc]
  intro j hj _
  by_cases hjl : j < fv.length
  · have hs := mem_take_succ hjl (v : Int)
    by_cases hu : (v : Int) ∈ fv.take j
    · have : (v : Int) ∈ fv.take (j + 1) := hs.2 (.inl hu)
      simp (disch := omega) [ltT, hu, this, add1', keep_cl, trunc, hjl, -Int.natCast_add, -Bool.decide_or]
    · have : ((v : Int) ∈ fv.take (j + 1)) = (fv[j] = (v : Int)) := propext (by rw [hs]; simp [hu])
      simp (disch := omega) [ltT, hu, get_in, this, add1', keep_cl, trunc, hjl, -Int.natCast_add, -Bool.decide_or]
      simp only [beqI]
  have hne : j = fv.length := by omega
  subst hne
  simp (disch := omega) [ltF, -Int.natCast_add, -Bool.decide_or]
  refine W_up gv.length (fun j => [(2, .ptr 0 0), (3, .ptr 1 0), (5, .vs (ints .i64 (bothL fv gv v)) (.own 2)), (6, .int .i64 v), (7, .bool (decide ((v : Int) ∈ fv ∨ (v : Int) ∈ gv.take j))), (9, .int .i64 j)])
    (fun _ => [some (.cells [.vs (ints .i64 fv) .no, .vs (nats .u32 ft) .no]), some (.cells [.vs (ints .i64 gv) .no, .vs (nats .u32 gt) .no]), some (.zone (bothL fv gv v).length)]) (fun _ => True) ?_ ?_
  · simp [keep_cl, trunc]
  intro j hj _
  by_cases hjl : j < gv.length
  · have hs := mem_take_succ hjl (v : Int)
    by_cases hu : (v : Int) ∈ fv ∨ (v : Int) ∈ gv.take j
    · have h2 : ((v : Int) ∈ fv ∨ (v : Int) ∈ gv.take (j + 1)) := hu.imp id fun h => hs.2 (.inl h)
      simp (disch := omega) [ltT, hu, h2, add1', keep_cl, trunc, hjl, -Int.natCast_add, -Bool.decide_or]
    · have h2 : ((v : Int) ∈ fv ∨ (v : Int) ∈ gv.take (j + 1)) = (gv[j] = (v : Int)) := propext (by rw [hs]; simp only [not_or] at hu; simp [hu.1, hu.2])
      simp (disch := omega) [ltT, hu, get_in, h2, add1', keep_cl, trunc, hjl, -Int.natCast_add, -Bool.decide_or]
      simp only [beqI]
  have hne : j = gv.length := by omega
  subst hne
  by_cases hm : (v : Int) ∈ fv ∨ (v : Int) ∈ gv
  · have hstep : bothL fv gv (v + 1) = bothL fv gv v ++ [(v : Int)] := by rw [bothL_succ, if_pos hm]
    simp (disch := omega) [ltF, hm, leTn, hstep, add1', keep_cl, trunc, hlt, -Int.natCast_add, -Bool.decide_or]
  · have hstep : bothL fv gv (v + 1) = bothL fv gv v := by rw [bothL_succ, if_neg hm, List.append_nil]
    simp (disch := omega) [ltF, hm, hstep, add1', keep_cl, trunc, hlt, -Int.natCast_add, -Bool.decide_or]
end Go.Ev
