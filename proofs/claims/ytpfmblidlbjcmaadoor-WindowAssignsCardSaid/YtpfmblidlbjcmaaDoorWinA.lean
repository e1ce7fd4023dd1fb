/- Which instructions are a window: window.Right, hurdleref17.Right; and hurdleref03.Same. -/
import Derived.Test.YtpfmblidlbjcmaaDoorCheckW
import Derived.Test.YtpfmblidlbjcmaaDoorEvSplC
namespace Go.Ev
open Go Go.RowKit
variable {G : Tbl}
set_option maxRecDepth 10000
set_option maxHeartbeats 2000000
set_option linter.unusedSimpArgs false
set_option linter.unusedVariables false

/-- An instruction that goes on behind itself. -/
def goesOn (x : In4) : Bool := !(x.op == 5) && !isBr x.op && !isEnd x.op
def plainW (x : In4) : Bool := goesOn x && rightI x && ruleB x
def winB (w : List In4) : Bool := decide (w.length ≤ 32) && w.all plainW
def RET : In4 := ⟨22, 0, 0, 0⟩
theorem goesOn_not {x : In4} (h : goesOn x = true) : x.op ≠ 5 ∧ isBr x.op = false ∧ isEnd x.op = false := by
  simp only [goesOn, Bool.and_eq_true, Bool.not_eq_true', beq_eq_false_iff_ne] at h
  exact ⟨h.1.1, h.1.2, h.2⟩
theorem one_plain {x : In4} (h : goesOn x = true) (left : Nat) : oneB x left = (rightI x && ruleB x) := by
  obtain ⟨h1, h2, h3⟩ := goesOn_not h
  simp [oneB, h1, h2]
theorem okAll_win : ∀ {w : List In4} (z : In4), (∀ x ∈ w, goesOn x = true) → okAll (w ++ [z]) = ((w.all fun x => rightI x && ruleB x) && oneB z 0)
  | [], z, _ => by simp [okAll]
  | x :: w, z, h => by
    rw [List.cons_append, okAll, okAll_win z fun y hy => h y (by simp [hy]), one_plain (h x (by simp))]
    simp [Bool.and_assoc]
theorem sound_win {w : List In4} (h : ∀ x ∈ w, goesOn x = true) (hl : w.length ≤ 32) : soundF (w ++ [RET]) = w.all plainW := by
  have h1 : endB (w ++ [RET]) = true := by simp [endB]; decide
  have h2 : oneB RET 0 = true := by decide
  have h3 : (w ++ [RET]).length ≤ 4096 := by simp; omega
  simp only [soundF, okAll_win RET h, h1, h2, h3, Bool.and_true, decide_true, Bool.true_and]
  rw [Bool.eq_iff_iff, List.all_eq_true, List.all_eq_true]
  constructor
  · intro h' x hx
    simp only [plainW, h x hx, Bool.true_and]; exact h' x hx
  · intro h' x hx
    have := h' x hx
    simpa only [plainW, h x hx, Bool.true_and] using this

theorem WRight_ok [HasIns G] [HasCheck G] [HasWRight G] (w : List In4) (hf : w.length ≤ maxLen) (hk : ∀ x ∈ w, x.k < 4294967296) : FP G 202 [FL w] (.bool (winB w)) := by
  refine FP_of HasWRight.h_window_Right (Nat.le_of_ble_eq_true rfl) ?_
  by_cases hb : w.length > 32
  · have h1 : ((32 : Int) < (w.length : Int)) = True := eq_true (by omega)
    simp [FL, h1, winB, show ¬ w.length ≤ 32 by omega]
  have h1 : ((32 : Int) < (w.length : Int)) = False := eq_false (by omega)
  have hle : w.length ≤ 32 := by omega
  simp [FL, h1]
  refine W_up w.length (fun i => [(0, FL w), (8, FL w), (9, .int .i64 w.length), (10, .int .i64 i)]) (fun _ => []) (fun i => ∀ x ∈ w.take i, goesOn x = true) ?_ ?_
  · simp [keep_cl, trunc, FL]
  intro i hi hp
  by_cases hlt : i < w.length
  · obtain ⟨x, hfx⟩ : ∃ x, x = w[i] := ⟨_, rfl⟩
    have hgg := FL_get hlt
    rw [← hfx] at hgg
    have hfx := hfx.symm
    have hxm : x ∈ w := hfx ▸ List.getElem_mem hlt
    have hbr := Branch_ok (G := G) x
    have hen := Ends_ok (G := G) x
    have hcs : x.cs = [.int .i64 x.op, .int .i64 x.jt, .int .i64 x.jf, .int .u32 (x.k : Int)] := rfl
    simp [IV, hcs] at hbr hen
    have bad : goesOn x = false → winB w = false := by
      intro h
      have : w.all plainW = false := by
        rw [← Bool.not_eq_true, List.all_eq_true]
        intro h2
        have := h2 x hxm
        simp only [plainW, h, Bool.false_and, Bool.false_eq_true] at this
      simp [winB, this]
    by_cases h5 : x.op = 5
    · have b5 : (x.op == 5) = true := by simp [h5]
      simp (disch := omega) [ltT, FL, hgg, hfx, hcs, b5, bad (by simp [goesOn, h5])]
    have b5 : (x.op == 5) = false := beqF h5
    simp (disch := omega) [ltT, FL, hgg, hfx, hcs, b5]
    refine callP_of hbr ?_
    cases hb : isBr x.op
    · simp
      refine callP_of hen ?_
      cases he : isEnd x.op
      · have hp' : ∀ y ∈ w.take (i + 1), goesOn y = true := by
          intro y hy
          rw [List.take_add_one, List.getElem?_eq_getElem hlt, hfx] at hy
          simp only [Option.toList, List.mem_append, List.mem_singleton] at hy
          rcases hy with hy | rfl
          · exact hp y hy
          · simp [goesOn, h5, hb, he]
        simp (disch := omega) [hlt, add1', keep_cl, trunc, FL, -Int.natCast_add]
        exact hp'
      · simp [bad (by simp [goesOn, he])]
    · simp [bad (by simp [goesOn, hb])]
  · have hne : i = w.length := by omega
    subst hne
    rw [List.take_length] at hp
    have hs := Sound_ok (G := G) (w ++ [RET]) (by rw [List.length_append]; have : maxLen = 9223372036854775807 := by decide
                                                  simp; omega) (fun x hx => by
      rcases List.mem_append.1 hx with h | h
      · exact hk x h
      · simp only [List.mem_singleton] at h; subst h; decide)
    rw [sound_win hp hle] at hs
    have hw : w.all plainW = winB w := by simp [winB, hle]
    rw [hw] at hs
    have hret : IL w ++ [[V.int .i64 22, .int .i64 0, .int .i64 0, .int .u32 0]] = IL (w ++ [RET]) := IL_snoc w RET
    have hret0 : [[V.int .i64 22, .int .i64 0, .int .i64 0, .int .u32 0]] = IL ([] ++ [RET]) := rfl
    simp only [FL] at hs
    by_cases hw0 : w = []
    · subst hw0
      simp only [List.nil_append, ← hret0] at hs
      simp [FL]
      refine callP_of hs ?_
      simp
    · simp (disch := omega) [FL, IL_eq_nil, hw0, leTn, hret]
      refine callP_of hs ?_
      simp

theorem Right17_ok [HasR2 G] [HasR5o G] [HasR17 G] (w : List In4) (hf : w.length ≤ 1000000) (hk : ∀ x ∈ w, x.k < 4294967296) : FP G 203 [FL w] (.bool (winB w)) := by
  refine FP_of HasR17.h_hurdleref17_Right (Nat.le_of_ble_eq_true rfl) ?_
  simp
  refine W_up w.length (fun i => [(0, FL w), (3, .int .i64 i)]) (fun _ => []) (fun i => (w.take i).all plainW = true) ?_ ?_
  · simp [keep_cl, trunc, FL]
  intro i hi hp
  by_cases hlt : i < w.length
  · obtain ⟨x, hfx⟩ : ∃ x, x = w[i] := ⟨_, rfl⟩
    have hgg := FL_get hlt
    rw [← hfx] at hgg
    have hfx := hfx.symm
    have hxm : x ∈ w := hfx ▸ List.getElem_mem hlt
    have hbr := BranchR_ok (G := G) x
    have hen := EndsR_ok (G := G) x
    obtain ⟨v, hon, e, rfl, he0⟩ := One_ok (G := G) x 0 2 (hk x hxm) (by decide) (by decide)
    have hcs : x.cs = [.int .i64 x.op, .int .i64 x.jt, .int .i64 x.jf, .int .u32 (x.k : Int)] := rfl
    simp [IV, hcs] at hbr hen hon
    have bad : plainW x = false → winB w = false := by
      intro h
      have : w.all plainW = false := by
        rw [← Bool.not_eq_true, List.all_eq_true]
        intro h2
        have := h2 x hxm
        rw [h] at this; cases this
      simp [winB, this]
    by_cases h5 : x.op = 5
    · have b5 : (x.op == 5) = true := by simp [h5]
      simp (disch := omega) [ltT, FL, hgg, hfx, hcs, b5, bad (by simp [plainW, goesOn, h5])]
    have b5 : (x.op == 5) = false := beqF h5
    simp (disch := omega) [ltT, FL, hgg, hfx, hcs, b5]
    refine callP_of hbr ?_
    cases hb : isBr x.op
    · simp (disch := omega) [ltT, FL, hgg, hfx, hcs]
      refine callP_of hen ?_
      cases he : isEnd x.op
      · simp (disch := omega) [ltT, FL, hgg, hfx, hcs]
        refine callP_of hon ?_
        have hgo : goesOn x = true := by simp [goesOn, h5, hb, he]
        rw [one_plain hgo] at he0
        by_cases hez : e = 0
        · have hpl : plainW x = true := by simp only [plainW, hgo, Bool.true_and]; exact he0.1 hez
          have hp' : (w.take (i + 1)).all plainW = true := by
            rw [List.take_add_one, List.getElem?_eq_getElem hlt, hfx, List.all_append, hp]
            simp [hpl]
          simp (disch := omega) [hez, hlt, add1', keep_cl, trunc, FL, -Int.natCast_add]
          simpa using hp'
        · have hpl : plainW x = false := by
            rw [← Bool.not_eq_true]; intro h
            simp only [plainW, hgo, Bool.true_and] at h
            exact hez (he0.2 h)
          simp [bneT hez, bad hpl]
      · simp [bad (by simp [plainW, goesOn, he])]
    · simp [bad (by simp [plainW, goesOn, hb])]
  · have hne : i = w.length := by omega
    subst hne
    rw [List.take_length] at hp
    by_cases hl : w.length ≤ 32
    · simp [FL, winB, hp, hl, leT, show ((w.length : Int) ≤ 32) = True from eq_true (by omega)]
    · simp [FL, winB, hp, hl, show ((w.length : Int) ≤ 32) = False from eq_false (by omega)]

@[simp] theorem cs_take4 (x : In4) : x.cs.take 4 = x.cs := rfl
theorem IL_drop (f : List In4) (n : Nat) : (IL f).drop n = IL (f.drop n) := by simp [IL]
theorem IL_take (f : List In4) (n : Nat) : (IL f).take n = IL (f.take n) := by simp [IL]
theorem aeq4 (x y : In4) : eqks [.int, .int, .int, .int] x.cs y.cs = some (decide (x = y)) := by
  obtain ⟨a, b, c, d⟩ := x
  obtain ⟨a', b', c', d'⟩ := y
  simp only [In4.cs, eqks, eqk, if_true, Bool.and_true, Option.some.injEq, In4.mk.injEq]
  rw [Bool.eq_iff_iff]
  simp only [Bool.and_eq_true, beq_iff_eq, decide_eq_true_eq]
  omega
theorem Same03_ok [HasR3 G] (f g : List In4) (hf : f.length ≤ 1000000) : FP G 201 [FL f, FL g] (.bool (decide (f = g))) := by
  refine FP_of HasR3.h_hurdleref03_Same (Nat.le_of_ble_eq_true rfl) ?_
  by_cases hl : f.length = g.length
  · have hz : ((f.length : Int) != (g.length : Int)) = false := by simp [hl]
    simp [FL, hz]
    refine W_up f.length (fun i => [(0, FL f), (1, FL g), (5, .int .i64 i)]) (fun _ => []) (fun i => f.take i = g.take i) ?_ ?_
    · simp [keep_cl, trunc, FL]
    intro i hi hp
    by_cases hlt : i < f.length
    · obtain ⟨x, hfx⟩ : ∃ x, x = f[i] := ⟨_, rfl⟩
      have hlt2 : i < g.length := by omega
      obtain ⟨y, hfy⟩ : ∃ y, y = g[i] := ⟨_, rfl⟩
      have hgg := FL_get hlt
      have hgg2 := FL_get hlt2
      rw [← hfx] at hgg
      rw [← hfy] at hgg2
      have hfx := hfx.symm
      have hfy := hfy.symm
      have ha := aeq4 x y
      by_cases hxy : x = y
      · rw [decide_eq_true hxy] at ha
        have hp' : f.take (i + 1) = g.take (i + 1) := by
          rw [List.take_add_one, List.take_add_one, hp, List.getElem?_eq_getElem hlt, List.getElem?_eq_getElem hlt2, hfx, hfy, hxy]
        simp (disch := omega) [ltT, FL, hgg, hgg2, hfx, hfy, ha, hlt, add1', keep_cl, trunc, hp', -Int.natCast_add]
      · rw [decide_eq_false hxy] at ha
        have hne : ¬ f = g := by
          rintro rfl
          exact hxy (hfx.symm.trans hfy)
        simp (disch := omega) [ltT, FL, hgg, hgg2, hfx, hfy, ha, hne, -Int.natCast_add]
    · have hne : i = f.length := by omega
      subst hne
      rw [List.take_length, hl, List.take_length] at hp
      simp [FL, hp]
  · have hz : ((f.length : Int) != (g.length : Int)) = true := by simp; omega
    have : ¬ f = g := fun h => hl (by rw [h])
    simp [FL, hz, this]
end Go.Ev
