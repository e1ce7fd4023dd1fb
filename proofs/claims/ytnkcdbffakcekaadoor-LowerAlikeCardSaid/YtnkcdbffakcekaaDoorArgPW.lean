/- Arguments of the statements: policies. -/
import Derived.Test.YtnkcdbffakcekaaDoorInsAW
import Derived.Test.YtnkcdbffakcekaaDoorLowOW
import Derived.Test.YtnkcdbffakcekaaDoorEvNW
set_option linter.unusedVariables false
set_option linter.unusedSimpArgs false
namespace Go.Ev
open Go Go.RowKit
set_option linter.unusedSimpArgs false
set_option linter.unusedVariables false
theorem cond_list : ∀ {es : List (List V)}, (∀ x ∈ es, HasTy (.agg [.int .i64, .int .i64, .int .u64, .int .u64]) x) → ∃ f : List Cd, es = CL f ∧ ∀ x ∈ f, x.ok
 | [], _ => ⟨[], rfl, by simp⟩
 | e :: es, h => by
  obtain ⟨x, rfl, hx⟩ := cond_cells (h e (by simp))
  obtain ⟨f, rfl, hf⟩ := cond_list (es := es) fun y hy => h y (by simp [hy])
  refine ⟨x :: f, by simp [CL], fun y hy => ?_⟩
  simp only [List.mem_cons] at hy
  rcases hy with rfl | hy
  ·exact hx
  ·exact hf y hy
theorem rule_cellsP {cs : List V} (h : HasTy (.agg [.int .u32, .int .u32, .sl (.agg [.int .i64, .int .i64, .int .u64, .int .u64]), .int .u32]) cs) : ∃ r : Ru, cs = r.cs ∧ r.wf := by
 unfold HasTy HasTys at h
 obtain ⟨a, b, rfl, h1, h⟩ := h
 unfold HasTys at h
 obtain ⟨c, d, rfl, h2, h⟩ := h
 unfold HasTys at h
 obtain ⟨f, g, rfl, h3, h⟩ := h
 unfold HasTys at h
 obtain ⟨k, l, rfl, h4, h⟩ := h
 unfold HasTys at h
 subst h
 obtain ⟨n1, rfl, w1⟩ := u32_cell h1
 obtain ⟨n2, rfl, w2⟩ := u32_cell h2
 obtain ⟨n4, rfl, w4⟩ := u32_cell h4
 rw [HasTy] at h3
 obtain ⟨es, rfl, hl, he⟩ := h3
 obtain ⟨cd, rfl, hc⟩ := cond_list he
 exact ⟨⟨n1, n2, cd, n4⟩, rfl, by simpa using hl, hc, w1, w2, w4⟩
theorem rule_listP : ∀ {es : List (List V)}, (∀ x ∈ es, HasTy (.agg [.int .u32, .int .u32, .sl (.agg [.int .i64, .int .i64, .int .u64, .int .u64]), .int .u32]) x) → ∃ f : List Ru, es = RL f ∧ ∀ x ∈ f, x.wf
 | [], _ => ⟨[], rfl, by simp⟩
 | e :: es, h => by
  obtain ⟨x, rfl, hx⟩ := rule_cellsP (h e (by simp))
  obtain ⟨f, rfl, hf⟩ := rule_listP (es := es) fun y hy => h y (by simp [hy])
  refine ⟨x :: f, by simp [RL], fun y hy => ?_⟩
  simp only [List.mem_cons] at hy
  rcases hy with rfl | hy
  ·exact hx
  ·exact hf y hy
theorem pol_arg {v : V} (h : ArgIs (.agg [.sl (.agg [.int .u32, .int .u32, .sl (.agg [.int .i64, .int .i64, .int .u64, .int .u64]), .int .u32]), .int .u32]) v) : ∃ p : Po, v = .agg p.cs ∧ p.wf := by
 unfold ArgIs at h
 obtain ⟨cs, rfl, h⟩ := h
 unfold HasTy HasTys at h
 obtain ⟨a, b, rfl, h1, h⟩ := h
 unfold HasTys at h
 obtain ⟨c, d, rfl, h2, h⟩ := h
 unfold HasTys at h
 subst h
 rw [HasTy] at h1
 obtain ⟨es, rfl, hl, he⟩ := h1
 obtain ⟨rs, rfl, hr⟩ := rule_listP he
 obtain ⟨n, rfl, hn⟩ := u32_cell h2
 exact ⟨⟨rs, n⟩, rfl, by simpa using hl, hr, hn⟩
end Go.Ev
/- Which instructions are a window: window.Right, hurdleref17.Right; and hurdleref03.Same. -/
namespace Go.Ev
open Go Go.RowKit
variable {G : Tbl}
set_option maxRecDepth 10000
set_option maxHeartbeats 2000000
set_option linter.unusedSimpArgs false
set_option linter.unusedVariables false
@[simp] theorem cs_take4 (x : In4) : x.cs.take 4 = x.cs := rfl
theorem aeq4 (x y : In4) : eqks [.int, .int, .int, .int] x.cs y.cs = some (decide (x = y)) := by
 obtain ⟨a, b, c, d⟩ := x
 obtain ⟨a', b', c', d'⟩ := y
 simp only [In4.cs, eqks, eqk, if_true, Bool.and_true, Option.some.injEq, In4.mk.injEq]
 rw [Bool.eq_iff_iff]
 simp only [Bool.and_eq_true, beq_iff_eq, decide_eq_true_eq]
 omega
theorem Same03_ok [HasR3 G] (f g : List In4) (hf : f.length ≤ 1000000) : FP G 201 [FL f, FL g] (.bool (decide (f = g))) := by
 refine FP_of HasR3.h_hurdleref03_Same (Nat.le_of_ble_eq_true rfl) ?_
 by_cases hl : f.length = g.length
 ·have hz : ((f.length : Int) != (g.length : Int)) = false := by simp [hl]
  simp [FL, hz]
  refine W_up f.length (fun i => [(0, FL f), (1, FL g), (5, .int .i64 i)]) (fun _ => []) (fun i => f.take i = g.take i) ?_ ?_
  ·simp [keep_cl, trunc, FL]
  intro i hi hp
  by_cases hlt : i < f.length
  ·obtain ⟨x, hfx⟩ : ∃ x, x = f[i] := ⟨_, rfl⟩
   have hlt2 : i < g.length := by omega
   obtain ⟨y, hfy⟩ : ∃ y, y = g[i] := ⟨_, rfl⟩
   have hgg := FL_get hlt
   have hgg2 := FL_get hlt2
   rw [← hfx] at hgg
   rw [← hfy] at hgg2
   have hfx := hfx.symm
   have hfy := hfy.symm
   have ha := aeq4 x y
   by_cases hxy : x = y
   ·rw [decide_eq_true hxy] at ha
    have hp' : f.take (i + 1) = g.take (i + 1) := by
     rw [List.take_add_one, List.take_add_one, hp, List.getElem?_eq_getElem hlt, List.getElem?_eq_getElem hlt2, hfx, hfy, hxy]
    simp (disch := omega) [ltT, FL, hgg, hgg2, hfx, hfy, ha, hlt, add1', keep_cl, trunc, hp', -Int.natCast_add]
   ·rw [decide_eq_false hxy] at ha
    have hne : ¬ f = g := by
     rintro rfl
     exact hxy (hfx.symm.trans hfy)
    simp (disch := omega) [ltT, FL, hgg, hgg2, hfx, hfy, ha, hne, -Int.natCast_add]
  ·have hne : i = f.length := by omega
   subst hne
   rw [List.take_length, hl, List.take_length] at hp
   simp [FL, hp]
 ·have hz : ((f.length : Int) != (g.length : Int)) = true := by simp; omega
  have : ¬ f = g := fun h => hl (by rw [h])
  simp [FL, hz, this]
end Go.Ev
/- What run.Run and hurdleref06.Run compute. -/
namespace Go.Ev
open Go Go.RowKit
variable {G : Tbl}
set_option maxRecDepth 10000
set_option maxHeartbeats 2000000
set_option linter.unusedSimpArgs false
set_option linter.unusedVariables false
def St0 : St := ⟨0, 0, zeros 16⟩
theorem st0_ok : St0.ok := ⟨by decide, by decide, by simp [St0], fun w hw => by
 simp only [St0, zeros, List.mem_replicate] at hw
 omega⟩
end Go.Ev
/- Layer 13: the law LowerMeans. -/
namespace Go.Ev
open Go Go.RowKit
variable {G : Tbl}
set_option maxRecDepth 10000
set_option maxHeartbeats 8000000
set_option linter.unusedSimpArgs false
set_option linter.unusedVariables false
theorem wf_len {p : Po} (hp : p.wf) : ∀ r ∈ p.rules, r.conds.length ≤ maxLen := fun r hr => (hp.2.1 r hr).1
theorem low_all {p : Po} (hp : p.wf) (hr : rightP p = true) : (lowerL p).length ≤ 4096 ∧ soundF (lowerL p) = true ∧ (∀ y ∈ lowerL p, y.k < 4294967296) ∧ (∀ d : Da, d.ok → (run d (lowerL p) St0).1 = judgeD d p) ∧ (lowerL p).length ≤ 1 + lowCost p := by
 obtain ⟨hf, hl, hc⟩ := right_fine hp hr
 obtain ⟨h1, h2, h3⟩ := lower_came hf
 have hcost := lowCost_le hl hc
 have g := h1.len
 have hl0 : (putF [] 6 p.dflt).length = 1 := rfl
 refine ⟨by omega, (h2 hcost).1, (h2 hcost).2, fun d hd => ?_, by omega⟩
 have := h3 d hd St0 st0_ok
 rw [sfx_all] at this
 rw [this]
 exact judge_find d p.dflt p.rules
end Go.Ev
/- Layer 13: the law LowerAlike. -/
namespace Go.Ev
open Go Go.RowKit
variable {G : Tbl}
set_option maxRecDepth 10000
set_option maxHeartbeats 8000000
set_option linter.unusedSimpArgs false
set_option linter.unusedVariables false
theorem LowerAlike_ok [HasIns G] [HasWText G] [HasName G] [HasPol G] [HasCode G] [HasMk G] [HasCondR G] [HasCondN G] [HasDataL G] [HasLow G] [HasR3 G] [HasL10g G] [HasL13 G] (hkn : FP G 443 [] (.bool true)) (p : Po) (hp : p.wf) : FP G 446 [.agg p.cs] (.bool true) := by
 refine FP_of HasL13.h_hurdlelaw13_LowerAlike (Nat.le_of_ble_eq_true rfl) ?_
 have w1 := Great10_ok (G := G) p hp.1 (wf_len hp)
 have w2 := Lower_ok (G := G) p hp
 simp only [Po.cs] at w1 w2
 simp [Po.cs]
 refine callP_of w1 ?_
 cases hg : greatP p with
 | true =>
  simp
  refine callP_of hkn ?_
  simp
 | false =>
  simp
  simp only [greatP, Bool.or_eq_false_iff, decide_eq_false_iff_not, List.any_eq_false, decide_eq_true_eq] at hg
  refine W_up p.rules.length (fun i => [(1, .ptr 0 0), (3, .ptr 1 0), (4, .int .i64 i)]) (fun i => [some (.cells p.cs), some (.cells [.vs (RL (p.rules.take i)) (.own 2), .int .u32 p.dflt]), some (.zone i)]) (fun _ => True) ?_ ?_
  ·simp [keep_cl, trunc, Po.cs, RL]
   done
  intro i hi _
  by_cases hlt : i < p.rules.length
  ·obtain ⟨x, hx⟩ : ∃ x, x = p.rules[i] := ⟨_, rfl⟩
   have hgx : p.rules[i]? = some x := by rw [List.getElem?_eq_getElem hlt, hx]
   have hgc := RL_get hgx
   have hget : (RL p.rules)[i]'(by simpa using hlt) = x.cs := by rw [List.getElem?_eq_getElem (by simpa using hlt)] at hgc; exact Option.some.inj hgc
   simp only [Ru.cs] at hgc hget
   have hcl : ∀ l : List Cd, (∀ f ∈ CL l, f.length = 4) = True := fun l => eq_true (fun f hf => by simp only [CL, List.mem_map] at hf; obtain ⟨z, _, rfl⟩ := hf; rfl)
   have hpu : ∀ l : List Cd, (V.vs (CL l) .no).pure = true := fun l => by simp [CL, Cd.cs, V.pure]
   have hRLs : ∀ l : List Ru, (∀ f ∈ RL l, f.length = 4) = True := fun l => eq_true (fun f hf => by simp only [RL, List.mem_map] at hf; obtain ⟨z, _, rfl⟩ := hf; rfl)
   have hx20 : x.conds.length ≤ 20 := by have := hg.1 x (List.mem_of_getElem? hgx); omega
   have hby : (x.conds.length * 32 ≤ 140737488355328) = True := eq_true (by omega)
   have hby2 : ((i + 1) * 40 ≤ 140737488355328) = True := eq_true (by omega)
   have htl : (p.rules.take i).length = i := by rw [List.length_take]; omega
   have hsn : RL (p.rules.take i) ++ [[.int .u32 (x.arch : Int), .int .u32 (x.nr : Int), .vs (CL x.conds) .no, .int .u32 (x.act : Int)]] = RL (p.rules.take (i + 1)) := by rw [List.take_add_one, hgx]; simp [RL, Ru.cs]
   have hrcl : ∀ (r : Ru) n, clL n r.cs = r.cs := fun r n => by rw [clL_eq_map]; simp [Ru.cs, V.cl, Tk.cl]
   by_cases hcn : x.conds = []
   ·have hcn' : CL x.conds = [] := by rw [hcn]; rfl
    rw [hcn'] at hsn
    simp (disch := omega) [ltT, get_in, hgc, hget, hlt, Po.cs, trunc, hcn', hpu, hby, hby2, hRLs, htl, hsn, keep_cl, add1', -Int.natCast_add]
    done
   ·have hcn' : (CL x.conds = []) = False := eq_false (by simpa [CL] using hcn)
    simp (disch := omega) [ltT, get_in, hgc, hget, hlt, Po.cs, trunc, hcn', hpu, hcl, hby, hby2, hRLs, htl, hsn, keep_cl, add1', -Int.natCast_add]
    done
  ·have : i = p.rules.length := by omega
   subst this
   have w3 := Same03_ok (G := G) (if rightP p then lowerL p else []) (if rightP p then lowerL p else []) (by
    cases hr : rightP p with
    | false => simp
    | true => have := (low_all hp hr).1; simp; omega)
   simp only [FL, Po.cs] at w2 w3
   generalize (if rightP p then lowerL p else []) = F at w2 w3
   generalize (if rightP p then (0 : Int) else 1) = E at w2
   rw [List.take_length]
   simp (disch := omega) [ltF, keep_cl, trunc, Po.cs]
   refine callP_of w2 ?_
   simp
   refine callP_of w2 ?_
   simp
   refine callP_of w3 ?_
   simp
   refine callP_of hkn ?_
   simp
end Go.Ev
