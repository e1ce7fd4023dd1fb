/- THE LAW RunBehind, PROVED: for every input of bulk at most 1048576 it returns true, and its arguments read as before; the variable that it names holds what the program's text lays. -/
import Derived.Test.YtdomogpjchpbnaaDoorRows
import Derived.Test.YtdomogpjchpbnaaDoorCards
import Derived.Test.YtdomogpjchpbnaaDoorTie
import Derived.Test.YtdomogpjchpbnaaDoorGlChk06
import Derived.Test.YtdomogpjchpbnaaDoorKn06
import Derived.Test.YtdomogpjchpbnaaDoorRunH
import Derived.WalkKit
import Derived.ProofKit
import Derived.OpenShut
import Derived.ShutString
import Derived.ChangeOld
import Derived.Below
import Derived.SizedLaws
import Derived.SevenTiedAt
import Derived.Deep.DeepHandedRow
import Derived.Deep.DeepWitnessRowRef
namespace Go.Proofs.YtdomogpjchpbnaaDoor.runBehind
open Go.ChangeShapes Go.WideShapes Go.ChangeAt Go.RowKit Go.Ev
open Go.ChangeMaps (open_string shut_string)
set_option linter.unusedVariables false
def tys : List Ty := [.sl (.agg [.int .i64, .int .i64, .int .i64, .int .u32]), .sl (.agg [.int .i64, .int .i64, .int .i64, .int .u32]), .agg [.int .u32, .int .u32, .int .u64, .arr 6 (.int .u64)]]
theorem tysOk : (tys.zip Tryd.f6.params.toList).all (fun x => tyIs Tryd.prog x.2 x.1) = true := by kernel_rfl
theorem readOk : Tryd.f6.params.toList.all (fun t => Tryd.prog.readableRec t && decide (t < Tryd.prog.types.size)) = true := by kernel_rfl
theorem one_le {H : Type} (d : DataW H) : 1 ≤ Rows.uptoBulk d := by
  cases d with
  | lit l => cases l <;> simp [Rows.uptoBulk]
  | nil => simp [Rows.uptoBulk]
  | ptr d => simp [Rows.uptoBulk]
  | slice elems spare => simp [Rows.uptoBulk]
  | agg parts => simp [Rows.uptoBulk]
  | iface t d => simp [Rows.uptoBulk]
  | map entries => simp [Rows.uptoBulk]
  | held h => simp [Rows.uptoBulk]
theorem length_le {H : Type} (l : List (DataW H)) : l.length ≤ Rows.uptoBulkAll l := by
  induction l with
  | nil => simp [Rows.uptoBulkAll]
  | cons x r ih => have := one_le x; simp only [Rows.uptoBulkAll, List.length_cons]; omega
/-- A slice has at most as many elements as its bulk. -/
theorem len_of {H : Type} {enc : TypeId × Value → H} {W : World} {M : Mm} {sp : Nat → Bool} {hl : Bool} {base : Nat} {t el : TypeId} {v : Value} {d : DataW H} {p : List MemPlace} {es : List (List V)} {tk : Tk} (hu : Tryd.prog.underlying t = some (.slice el))
    (h : DataW.Trod enc Tryd.prog W base sp hl t v d p) (he : Enc M W (.vs es tk) v) : es.length ≤ Rows.uptoBulk d := by
  simp only [Enc] at he
  obtain ⟨_, a, cap, rfl, _, ha, _⟩ := he
  cases a with
  | none => rw [ha.1]; exact Nat.zero_le _
  | some ad =>
    obtain ⟨fuel, h⟩ := h
    cases fuel with
    | zero => simp [DataW.trod] at h
    | succ fuel =>
      have hc : (Value.slice (some ad) es.length cap).cells.toList = [.slice (some ad) es.length cap] := rfl
      rw [hc] at h
      unfold DataW.trod at h
      rw [hu] at h
      simp only at h
      split at h
      case isFalse => cases h
      rw [Option.bind_eq_some_iff] at h
      obtain ⟨elems, hel, h⟩ := h
      have hlen := mapM_some_length hel
      simp only [List.length_range] at hlen
      rw [Option.map_eq_some_iff] at h
      obtain ⟨rest, _, h⟩ := h
      simp only [Prod.mk.injEq] at h
      obtain ⟨rfl, _⟩ := h
      have := length_le (elems.map (·.1))
      rw [List.length_map] at this
      simp only [Rows.uptoBulk]
      omega
def wit : Array Value := #[.slice none 0 0, .slice none 0 0, .agg (#[.int .u32 0, .int .u32 0, .int .u64 0] ++ Array.replicate 6 (.int .u64 0))]
theorem reads (os : Os) {H : Type} (enc : TypeId × Value → H) : ∃ places, DataW.whole enc Tryd.prog ((World.doorLaid Tryd.prog 400 os).forCall (fun _ _ => 0) ⟨#[], wit, []⟩).memory Tryd.f6.params.toList Rows.runBehindSpec.vars false
    wit.toList 8 = some ([.nil, .nil, .agg [.lit (.int .u32 0), .lit (.int .u32 0), .lit (.int .u64 0), .agg (List.replicate 6 (.lit (.int .u64 0)))]], [], places) :=
  ⟨[], by kernel_rfl⟩
set_option maxRecDepth 100000 in
theorem lifted (os : Os) (started : os.Started) (H : Type) (enc : TypeId × Value → H) (F : Stop.Interp) :
    ReturnsInHanded {} Tryd.checked os 6 .any ((Rows.OpenSpec.upto Rows.runBehindSpec).preRow enc Tryd.prog Tryd.f6 Rows.runBehindUptoRow.domain false Rows.runBehindUptoRow.laid) (((Rows.OpenSpec.upto Rows.runBehindSpec).at F).post enc Tryd.prog Tryd.f6 false true false false) := by
  obtain ⟨places, hx⟩ := reads os enc
  refine returnsInHanded_of_row (C := Tryd.checked) (s := Rows.OpenSpec.upto Rows.runBehindSpec) own started (by kernel_rfl) Tryd.func6
    (witness_row_atRef (enc := enc) (C := Tryd.checked) false (World.doorLaid Tryd.prog 400 os) wit rfl (by kernel_rfl) (by kernel_rfl) (by kernel_rfl)
      (OpenSpec.preRow_of_cond 8 hx (by kernel_rfl) (fun k hk => by cases hk; kernel_rfl) (by kernel_rfl) (door_met os _))) ?_
  intro W base args ds gs before hval0 hW _ hcond _ hL _ _
  have hval : ∀ (j : Nat) t v, Tryd.f6.params[j]? = some t → args[j]? = some v → Value.okWide Tryd.prog W .any base t v := hval0
  have hk := of_decide_eq_true (hcond _ rfl)
  have hW' := hW
  obtain ⟨p, q, hA0, hV, rfl, hfz, hnd⟩ := hW
  have hA : DataW.TrodAll enc Tryd.prog W 0 (fun _ => true) true Tryd.f6.params.toList args.toList ds p := hA0
  obtain ⟨rfl, rfl⟩ := trodVars_none hV
  obtain ⟨cs, hcs, hes⟩ := open_args (fm := fm) (tys := tys) (zip_all tysOk) (by kernel_rfl) (fun j t v ht hv => hval j t v (by simpa using ht) (by simpa using hv)) hA
  have hG : GOk (M0 fm) W := gok_one (ty := .arr 39 (.agg [.int .i64, .str, .bool, .bool])) hL (by kernel_rfl) gSh tSh tySh canSh pureSh fmSh
  have hA1 := hA
  rw [Tryd.params6] at hA1
  obtain ⟨v0, vs0, d0, ds0, p0, q0, hargs, rfl, rfl, h0, r0⟩ := trodAll_cons hA1
  obtain ⟨v1, vs1, d1, ds1, p1, q1, rfl, rfl, rfl, h1, r1⟩ := trodAll_cons r0
  obtain ⟨v2, vs2, d2, ds2, p2, q2, rfl, rfl, rfl, h2, r2⟩ := trodAll_cons r1
  obtain ⟨rfl, rfl, rfl⟩ := trodAll_nil r2
  have walk : FP tbl 240 cs (.bool true) := by
    simp only [tys, ArgsAre] at hcs
    obtain ⟨a, _, rfl, ha, b, _, rfl, hb, c, _, rfl, hc, rfl⟩ := hcs
    obtain ⟨f, rfl, hf, hkf⟩ := flt_arg ha
    obtain ⟨l, rfl, hl, hkl⟩ := flt_arg hb
    obtain ⟨d, rfl, hd⟩ := da_arg hc
    have he := hes
    rw [hargs] at he
    simp only [EncL] at he
    obtain ⟨x0, xs0, e0, he0, x1, xs1, e1, he1, _⟩ := he
    cases e0
    cases e1
    have b0 := len_of Tryd.underlying37 h0 he0
    have b1 := len_of Tryd.underlying37 h1 he1
    rw [IL_length] at b0 b1
    simp only [Rows.uptoBulkAll, List.cons_append, List.nil_append] at hk
    exact RunBehind_ok kn06 f l d (by omega) (fun x hx => (hkf x hx).2) (fun x hx => (hkl x hx).2) hd
  refine (law_calls hG checked walk hes).mono fun e W' ⟨he, bel⟩ => ?_
  subst he
  obtain ⟨ps', hS⟩ := shut_args laidOut readOk bel hA
  exact ⟨_, rfl, _, _, _, [], _, [], hW', trodAll_mk1 (shut_bool Tryd.underlying4 _), hS, rfl, bel.frame _, fun h => by cases h⟩
theorem over : Rows.RunBehindUptoSaid :=
  OpenClaim.holds_of_cond 6 Tryd.f6 rfl rfl rfl rfl rfl rfl rfl ⟨rfl, rfl, rfl, rfl, rfl⟩ rfl rfl rfl rfl rfl (by kernel_rfl) Tryd.func6 (by kernel_rfl)
    (of_decide_eq_true (by kernel_rfl)) (by unfold Func.isWrapper; first | (rw [if_pos (by decide +kernel)]; kernel_rfl) | (rw [if_neg (by decide +kernel)]; exact ⟨rfl, rfl⟩))
    (fun os started H enc _ F => by rw [OpenClaim.pre_eq_preRow]; exact lifted os started H enc F)
theorem card : Rows.RunBehindUptoCardSaid :=
  Claim7.holds_tied_plain_at .later [] [.data] true (true, "2682f27999d79443486a10fe2e6edcccb7dcdf9f601351cb6f78248bcb1048a2") false
    over (fun _ h => by cases h) (by kernel_rfl) (fun _ h => by cases h) runBehindUpto_row_tie rfl ⟨rfl, rfl⟩ (by kernel_rfl) rfl
    (fun f fn hf hfn => by
      obtain rfl : f = 6 := Option.some.inj ((show Tryd.prog.funcNamed "hurdle/hurdlelaw06.RunBehind" = some 6 by kernel_rfl).symm.trans hf) |>.symm
      obtain rfl : fn = Tryd.f6 := (Option.some.inj (Tryd.func6.symm.trans hfn)).symm
      exact ⟨by kernel_rfl, fun j t ht => by
        have hm : t ∈ Tryd.f6.params.toList := by simpa using Array.mem_of_getElem? ht
        have hall : (Tryd.f6.params.toList.all fun u => !Tryd.prog.wantsStandIn u) = true := by kernel_rfl
        exact (show Tryd.prog.wantsStandIn t = false by simpa using List.all_eq_true.1 hall t hm)⟩)
    (by kernel_rfl)
#print axioms card
end Go.Proofs.YtdomogpjchpbnaaDoor.runBehind
namespace Go.Proofs.YtdomogpjchpbnaaDoor
/-- The card, under a short name, for the claim. -/
theorem runBehindUpto_holds : Rows.RunBehindUptoCardSaid := runBehind.card
end Go.Proofs.YtdomogpjchpbnaaDoor
