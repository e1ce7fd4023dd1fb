/- Layer 13: the law LowerEdges. -/
import Derived.Test.YtnkcdbffakcekaaDoorLowGW
import Derived.Test.YtnkcdbffakcekaaDoorInsAW
set_option linter.unusedVariables false
set_option linter.unusedSimpArgs false
namespace Go.Ev
open Go Go.RowKit
variable {G : Tbl}
set_option maxRecDepth 10000
set_option maxHeartbeats 8000000
set_option linter.unusedSimpArgs false
set_option linter.unusedVariables false
theorem LowerEdges_ok [HasIns G] [HasR2 G] [HasR5 G] [hR1 : HasR1 G] [HasR1n G] [HasR4 G] [HasR6s G] [HasR6 G] [HasR6r G] [HasWText G] [HasName G] [HasPol G] [HasCode G] [HasMk G] [HasCondR G] [HasCondN G] [HasDataL G] [HasLow G]
  [HasR1t G] [HasR9a G] [HasR8 G] [HasR10 G] [HasR11 G] [HasR13e G] [HasL10g G] [HasL13 G] (hkn : FP G 443 [] (.bool true)) (p : Po) (hp : p.wf) (d : Da) (hd : d.ok) : FP G 445 [.agg p.cs, DV d] (.bool true) := by
 refine FP_of HasL13.h_hurdlelaw13_LowerEdges (Nat.le_of_ble_eq_true rfl) ?_
 have hdl : d.cs.length = 9 := by simp [Da.cs, hd.2.2.2.1]
 have hdt : d.cs.take 9 = d.cs := List.take_of_length_le (by omega)
 have dcl : ∀ (d : Da) n, clL n d.cs = d.cs := fun d n => by rw [clL_eq_map]; simp [Da.cs, cnats, V.cl, Function.comp_def]
 have dnf : ∀ d : Da, d.cs.map V.nf1 = d.cs := fun d => by simp [Da.cs, cnats, V.nf1, Function.comp_def]
 have w1 := Great10_ok (G := G) p hp.1 (wf_len hp)
 have w2 := Lower_ok (G := G) p hp
 have w3 := polRightR_ok (G := G) p hp.1 (wf_act hp) hp.2.2
 simp only [Po.cs, DV] at w1 w2 w3
 simp [Po.cs, DV, hdl, hdt, dnf, dcl]
 refine callP_of w1 ?_
 cases hg : greatP p with
 | true =>
  simp
  refine callP_of hkn ?_
  simp
 | false =>
  simp
  refine callP_of w3 ?_
  cases hr : rightP p with
  | false =>
   simp
   refine callP_of hkn ?_
   simp
  | true =>
   obtain ⟨a1, a2, a3, a4, _⟩ := low_all hp hr
   obtain ⟨_, hl64, hc4⟩ := right_fine hp hr
   have w4 := SoundR_ok (G := G) (lowerL p) (by unfold maxLen; omega) a3
   rw [a2] at w4
   simp only [FL] at w4
   simp
   refine callP_of w2 ?_
   simp [hr, FL]
   refine callP_of w4 ?_
   simp
   refine W_up p.rules.length (fun i => [(2, .ptr 0 0), (3, .ptr 1 0), (5, .vs (IL (lowerL p)) .no), (7, .int .i64 i)]) (fun _ => [some (.cells p.cs), some (.cells d.cs)]) (fun _ => True) ?_ ?_
   ·simp [keep_cl, trunc, Po.cs, dcl]
   intro i hi _
   by_cases hlt : i < p.rules.length
   ·obtain ⟨x, hx⟩ : ∃ x, x = p.rules[i] := ⟨_, rfl⟩
    have hgx : p.rules[i]? = some x := by rw [List.getElem?_eq_getElem hlt, hx]
    have hgc := RL_get hgx
    have hget : (RL p.rules)[i]'(by simpa using hlt) = x.cs := by rw [List.getElem?_eq_getElem (by simpa using hlt)] at hgc; exact Option.some.inj hgc
    have hxm := List.mem_of_getElem? hgx
    obtain ⟨v, wv, L, rfl, hL, hLl⟩ := Edges_ok (G := G) x (hp.2.1 x hxm) (by have := hc4 x hxm; omega) d hd
    simp only [Ru.cs, DV] at wv hgc hget
    simp (disch := omega) [ltT, get_in, hgc, hget, hlt, Po.cs, hdl, hdt, dnf, dcl]
    refine callP_of wv ?_
    simp
    refine W_up L.length (fun k => [(2, .ptr 0 0), (3, .ptr 1 0), (5, .vs (IL (lowerL p)) .no), (7, .int .i64 i), (8, .vs (DL L) .no), (9, .int .i64 k)]) (fun _ => [some (.cells p.cs), some (.cells d.cs)]) (fun _ => True) ?_ ?_
    ·simp [keep_cl, trunc, Po.cs, dcl]
    intro k hk _
    by_cases hlk : k < L.length
    ·obtain ⟨y, hy⟩ : ∃ y, y = L[k] := ⟨_, rfl⟩
     have hgy : L[k]? = some y := by rw [List.getElem?_eq_getElem hlk, hy]
     have hgyc := DL_get hgy
     have hgety : (DL L)[k]'(by simpa using hlk) = y.cs := by rw [List.getElem?_eq_getElem (by simpa using hlk)] at hgyc; exact Option.some.inj hgyc
     have hyo := hL y (List.mem_of_getElem? hgy)
     have hyl := Da.cs_len hyo
     have hyt : y.cs.take 9 = y.cs := List.take_of_length_le (by omega)
     have w5 := RunR_ok (G := G) (lowerL p) y a3 a2 hyo
     rw [a4 y hyo] at w5
     have w6 := Judge_ok (G := G) p hp.1 (wf_oks hp) y hyo
     simp only [FL, DV, Po.cs] at w5 w6
     simp (disch := omega) [ltT, get_in, hgyc, hgety, hlk, hyl, hyt, dnf, dcl]
     refine callP_of w5 ?_
     simp (disch := omega) [ltT, get_in, hgyc, hgety, hlk, hyl, hyt, dnf, dcl, Po.cs]
     refine callP_of w6 ?_
     simp (disch := omega) [keep_cl, trunc, Po.cs, dcl, add1', hlk, -Int.natCast_add]
     done
    ·have : k = L.length := by omega
     subst this
     simp (disch := omega) [ltF, keep_cl, trunc, Po.cs, dcl, add1', hlt, -Int.natCast_add]
     done
   ·have : i = p.rules.length := by omega
    subst this
    simp (disch := omega) [ltF, keep_cl, trunc, Po.cs]
    refine callP_of hkn ?_
    simp
end Go.Ev
