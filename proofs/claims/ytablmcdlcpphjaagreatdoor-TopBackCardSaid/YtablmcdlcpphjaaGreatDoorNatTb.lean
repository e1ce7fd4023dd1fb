/- names.name: a range over a map that leaves early: walked by hand. -/
import Derived.Test.YtablmcdlcpphjaaGreatDoorProg
import Derived.Tactics
import Derived.Tactics2
import Derived.StillTactics
import Derived.Laws.Tables
import Derived.Laws.Unary
import Derived.Laws.Strings
import Derived.Laws.Strings2
import Derived.Laws.Entries
import Derived.Laws.RangeAny
import Derived.Laws.Strings3
import Derived.Laws.Sem
import Derived.Scope
import Derived.FnLit
import Derived.LoopTactic
import Derived.LoopN
import Derived.Laws.IdiomRangeMap
import Derived.Test.YtablmcdlcpphjaaGreatDoorEvNat
import Derived.Test.YtablmcdlcpphjaaGreatDoorChkTb
set_option linter.unusedVariables false
set_option linter.unusedSimpArgs false
namespace Go.Proofs.YtablmcdlcpphjaaGreatDoor
open Go
set_option maxRecDepth 1000000 in
theorem walkName (bm : Nat) (es : Array MapEntry) (clock : Nat) (want : Int) (key : ByteArray) (w : World) (hb : w.heap[bm]? = some (.map es clock)) (hst1 : ∀ x ∈ es.toList, x.born < clock) (hst2 : (es.toList.map (·.born)).Nodup)
    (hv : ∀ x ∈ es.toList, ∃ s v, x.key = .string s ∧ x.val = .int .u32 v ∧ (v = want → s = key)) (hno : (∀ x ∈ es.toList, ¬ valOf x.val = want) → key = ⟨#[]⟩) :
    Calls Tryz.prog 54 #[.map (some bm), .int .u32 want] w fun e w' => e = .returned (.string key) ∧ ∃ (w1 : World) (o : Obj), w1.Alike w ∧ w1.tape = w.tape ∧ w' = w1.alloc o := by
  have hrg := run_range_map (P := Tryz.prog) w 115 9 23 bm es clock Tryz.underlying115 hb
  go_enter Tryz.func54, Tryz.ntmps54
  go_wp2
  go_loopw [] (fun w' => ∃ (w1 : World) (seen : Array Nat), w1.Alike w ∧ w1.tape = w.tape ∧ w' = w1.alloc (.mapIter (some bm) clock seen clock) ∧ ∀ x ∈ es.toList, seen.contains x.born = true → ¬ valOf x.val = want) (fun w' => (leftOf es (w'.iterSeen w.heap.size)).size)
  case atStart => exact ⟨w, #[], ⟨rfl, rfl, rfl⟩, rfl, rfl, fun x _ h => by simp at h⟩
  case round =>
    obtain ⟨w1, seen, hal, htp, rfl, hno'⟩ := hrel
    have hsz : w1.heap.size = w.heap.size := by rw [hal.1]
    have hb1 : w1.heap[bm]? = some (.map es clock) := by rw [hal.1]; exact hb
    have law := run_next_map (P := Tryz.prog) w1 0 bm clock clock seen es clock hb1 hst1 (Nat.le_refl _)
    rw [hsz] at law
    rcases law with ⟨h0, hrun⟩ | ⟨e, he, w2, hal2, hrun⟩
    · have hnx : ∀ ty, (Instr.next (.pointer (some ⟨w.heap.size, 0, none⟩)) false ty).run Tryz.prog (w1.alloc (.mapIter (some bm) clock seen clock)) = _ := fun _ => hrun
      go_wp2
      go_ret
      have hk := hno fun x hx => hno' x hx (all_seen es seen h0 x hx)
      subst hk
      exact ⟨rfl, w1, _, hal, htp, rfl⟩
    · have htp2 : (w2.alloc (.mapIter (some bm) clock (seen.push e.born) clock)).tape = (w1.alloc (.mapIter (some bm) clock seen clock)).tape := Go.Ev.next_tape _ _ _ _ _ hrun
      have htp2 : w2.tape = w1.tape := htp2
      obtain ⟨s, v, hkey, hval, hsv⟩ := hv e (mem_left he).1
      rw [hkey, hval] at hrun
      have hnx : ∀ ty, (Instr.next (.pointer (some ⟨w.heap.size, 0, none⟩)) false ty).run Tryz.prog (w1.alloc (.mapIter (some bm) clock seen clock)) = _ := fun _ => hrun
      have hsz2 : w2.heap.size = w.heap.size := by rw [hal2.1, hal.1]
      have hb2 : w2.heap[bm]? = some (.map es clock) := by rw [hal2.1]; exact hb1
      have hen := run_entry_map (P := Tryz.prog) w2 bm clock seen es clock e hb2 (mem_left he).1 hst2
      rw [hsz2, hkey, hval] at hen
      have hal3 : w2.Alike w := ⟨hal2.1.trans hal.1, hal2.2.1.trans hal.2.1, hal2.2.2.trans hal.2.2⟩
      go_wp2
      · rename_i heq
        go_ret
        have hk : s = key := hsv (by simpa using heq)
        subst hk
        exact ⟨rfl, w2, _, hal3, htp2.trans htp, rfl⟩
      · rename_i hne
        go_roundw
        case rel =>
          refine ⟨w2, seen.push e.born, hal3, htp2.trans htp, rfl, fun x hx hc => ?_⟩
          rw [contains_push] at hc
          rcases Bool.or_eq_true _ _ ▸ hc with h1 | h1
          · exact hno' x hx h1
          · have : x = e := born_inj hst2 hx (mem_left he).1 (beq_iff_eq.1 h1)
            subst this
            rw [hval]
            simpa [valOf] using hne
        case measure =>
          rw [← hsz2, World.iterSeen_alloc, hsz2, ← hsz, World.iterSeen_alloc]
          exact left_shrinks es seen e he
set_option maxRecDepth 1000000 in
theorem walkNameNil (want : Int) (w : World) :
    Calls Tryz.prog 54 #[.map none, .int .u32 want] w fun e w' => e = .returned (.string ⟨#[]⟩) ∧ ∃ (w1 : World) (o : Obj), w1.Alike w ∧ w1.tape = w.tape ∧ w' = w1.alloc o := by
  have hrg := run_range_nilMap (P := Tryz.prog) w 115 9 23 Tryz.underlying115
  have hnx : ∀ ty, (Instr.next (.pointer (some ⟨w.heap.size, 0, none⟩)) false ty).run Tryz.prog (w.alloc (.mapIter none 0 #[] 0)) = _ := fun ty => run_next_nilMap w ty 0 0 #[]
  go_enter Tryz.func54, Tryz.ntmps54
  go_wp2
  refine wp_loop_rounds 1 ?_
  rw [rounds_succ]
  go_wp2
  go_ret
  exact ⟨rfl, w, _, ⟨rfl, rfl, rfl⟩, rfl, rfl⟩
theorem nameOk : Go.Ev.NatOk Tryz.prog fm 393 0 := Go.Ev.nat0_ok ⟨_, Tryz.func54, rfl, by decide⟩ walkName walkNameNil
theorem checkedA : ∀ f c, tbl f = some c → Go.Ev.FnOk Tryz.prog fm f c := checkedN nameOk
end Go.Proofs.YtablmcdlcpphjaaGreatDoor
