/- What the functions of bits compute. -/
import Derived.Test.YtnlhnffijidioaaDoorEvBitsC
import Derived.Test.YtnlhnffijidioaaDoorBitsP
import Derived.Test.YtnlhnffijidioaaDoorEvT
namespace Go.Ev
open Go Go.RowKit
variable {G : Tbl}
set_option maxRecDepth 10000
set_option linter.unusedSimpArgs false
set_option linter.unusedVariables false

def FV (vars : List Int) (tab : List Nat) : V := .agg [.vs (ints .i64 vars) .no, .vs (nats .u32 tab) .no]

theorem counts_ok (hG : HasBits G) (vars : List Int) (tab : List Nat) (j : Nat) (hj : j < 10) (hlen : tab.length ≤ 100) (hin : ∀ n, n < tab.length → n ^^^ 2 ^ j < tab.length) :
    FP G 100 [FV vars tab, .int .i64 j] (.bool (cnt tab j)) := by
  refine FP_of hG.h_bits_counts (Nat.le_of_ble_eq_true rfl) ?_
  simp [FV]
  refine W_up tab.length (fun n => [(1, .int .i64 j), (2, .ptr 0 0), (8, .int .i64 tab.length), (9, .int .i64 n)])
    (fun _ => [some (.cells [.vs (ints .i64 vars) .no, .vs (nats .u32 tab) .no])]) (fun n => ∀ m, m < n → tab[m]? = tab[m ^^^ 2 ^ j]?) ?_ ?_
  · simp [keep_cl, trunc]
  intro n hn hall
  by_cases hlt : n < tab.length
  · have h1 : tab[n]? = some tab[n] := List.getElem?_eq_getElem hlt
    have h2 : tab[n ^^^ 2 ^ j]? = some (tab[n ^^^ 2 ^ j]'(hin n hlt)) := List.getElem?_eq_getElem (hin n hlt)
    have hp : 2 ^ j < 2 ^ 63 := Nat.pow_lt_pow_right (by decide) (by omega)
    have h3 : shlI .i64 1 (j : Int) = ((2 ^ j : Nat) : Int) := shl1 (by omega)
    have h4 : xorI .i64 (n : Int) ((2 ^ j : Nat) : Int) = ((n ^^^ 2 ^ j : Nat) : Int) := xor64 (by omega) hp
    have h5 : ¬ (j : Int) < 0 := by omega
    have h6 : addI .i64 (n : Int) 1 = ((n + 1 : Nat) : Int) := add1 hlt (by omega)
    simp [hlt, h3, h4, h5, h6, hin n hlt, -Int.natCast_pow, -Int.natCast_add]
    rw [condW_bool]
    split
    · rename_i he
      simp at he
      simp only [W_seq, W_region, WO_op, Ws]
      simp [cnt]
      exact ⟨n, hlt, by rw [h1, h2]; simpa using he⟩
    · rename_i he
      simp at he
      simp [hlt, h6, keep_cl, trunc, -Int.natCast_add]
      intro m hm
      by_cases hmn : m = n
      · subst hmn; rw [h1, h2, he]
      · exact hall m (by omega)
  · have hnl : n = tab.length := by omega
    subst hnl
    simp [cnt]
    exact hall

theorem tab_in {vars : List Int} {tab : List Nat} (h : vars.length ≤ 4) (ht : tab.length = 2 ^ vars.length) {j : Nat} (hj : j < vars.length) : ∀ n, n < tab.length → n ^^^ 2 ^ j < tab.length := by
  intro n hn
  rw [ht] at hn ⊢
  exact Nat.xor_lt_two_pow hn (Nat.pow_lt_pow_right (by decide) hj)
theorem tab_small {vars : List Int} {tab : List Nat} (h : vars.length ≤ 4) (ht : tab.length = 2 ^ vars.length) : tab.length ≤ 16 := by
  rw [ht]; exact Nat.pow_le_pow_right (by decide) h

theorem Right_ok (hG : HasBits G) (vars : List Int) (tab : List Nat) (hv : vars.length ≤ 9223372036854775807) (ht : tab.length ≤ 9223372036854775807) : FP G 101 [FV vars tab] (.bool (rightB vars tab)) := by
  refine FP_of hG.h_bits_Right (Nat.le_of_ble_eq_true rfl) ?_
  simp [FV]
  by_cases h4 : vars.length ≤ 4
  · by_cases h7 : tab.length = 2 ^ vars.length
    · have hsm := tab_small h4 h7
      simp (disch := omega) [leT, leF, ltT, ltF, ltTn, ltFn, shl1, h7, -Int.natCast_pow]
      refine W_up vars.length (fun n => [(1, .ptr 0 0), (20, .vs (ints .i64 vars) .no), (21, .int .i64 vars.length), (22, .int .i64 n)])
        (fun _ => [some (.cells [.vs (ints .i64 vars) .no, .vs (nats .u32 tab) .no])]) (fun n => ∀ m, m < n → okAt vars tab m) ?_ ?_
      · simp [keep_cl, trunc]
      intro n hn hall
      by_cases hlt : n < vars.length
      · have hbad : ¬ okAt vars tab n → rightB vars tab = false := fun h => by simp only [rightB, decide_eq_false_iff_not]; exact fun hR => h (hR.2.2 n hlt)
        have hgood : okAt vars tab n → ∀ m, m < n + 1 → okAt vars tab m := fun h m hm => by
          by_cases hmn : m = n
          · subst hmn; exact h
          · exact hall m (by omega)
        have h1 : vars[n]? = some vars[n] := List.getElem?_eq_getElem hlt
        by_cases ha : vars[n] < 0
        · simp (disch := omega) [leT, leF, ltT, ltF, ltTn, ltFn, get_in]
          exact hbad (by rintro ⟨v, hv, h0, _⟩; rw [h1] at hv; cases hv; omega)
        by_cases hb : vars[n] < 34
        · by_cases hd : 0 < n
          · have h2 : vars[n - 1]? = some vars[n - 1] := List.getElem?_eq_getElem (by omega)
            by_cases hg : vars[n - 1] < vars[n]
            · simp (disch := omega) [leT, leF, ltT, ltF, ltTn, ltFn, get_in, sub1', add1', -Int.natCast_add]
              refine callP_of (counts_ok hG vars tab n (by omega) (by omega) (tab_in h4 h7 hlt)) ?_
              cases hk : cnt tab n <;> simp (disch := omega) [hlt, keep_cl, trunc, add1', -Int.natCast_add]
              · exact hbad (by rintro ⟨v, hv, h0, _, _, hh⟩; rw [hk] at hh; cases hh)
              · exact hgood ⟨_, h1, by omega, hb, fun u _ hu => by rw [h2] at hu; cases hu; exact hg, hk⟩
            · simp (disch := omega) [leT, leF, ltT, ltF, ltTn, ltFn, get_in, sub1', -Int.natCast_add]
              exact hbad (by rintro ⟨v, hv, h0, _, hu, _⟩; rw [h1] at hv; cases hv; exact hg (hu _ hd h2))
          · have hn0 : n = 0 := by omega
            subst hn0
            simp (disch := omega) [leT, leF, ltT, ltF, ltTn, ltFn, get_in, add1', -Int.natCast_add]
            refine callP_of (counts_ok hG vars tab 0 (by omega) (by omega) (tab_in h4 h7 hlt)) ?_
            cases hk : cnt tab 0 <;> simp (disch := omega) [hlt, keep_cl, trunc, addI64]
            · exact hbad (by rintro ⟨v, hv, h0, _, _, hh⟩; rw [hk] at hh; cases hh)
            · exact ⟨_, h1, by omega, hb, fun u hu => absurd hu (by omega), hk⟩
        · simp (disch := omega) [leT, leF, ltT, ltF, ltTn, ltFn, get_in]
          exact hbad (by rintro ⟨v, hv, h0, _⟩; rw [h1] at hv; cases hv; omega)
      · have hnl : n = vars.length := by omega
        subst hnl
        have : rightB vars tab = true := by simp only [rightB, decide_eq_true_eq]; exact ⟨h4, h7, hall⟩
        simp [this]
    · have h8 : ¬ ((tab.length : Int) = ((2 ^ vars.length : Nat) : Int)) := by
        simp only [Int.ofNat_inj]; exact h7
      simp (disch := omega) [leT, leF, ltT, ltF, ltTn, ltFn, shl1, bneT h8, -Int.natCast_pow]
      simp [rightB, Right, h7]
  · simp (disch := omega) [leT, leF, ltT, ltF]
    simp [rightB, Right, h4]
end Go.Ev
