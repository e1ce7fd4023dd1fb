/- names.name: a range over a map that leaves early: walked by hand. -/
import Derived.Test.YtbkhoemaobbplaaGreatDoorProg
import Derived.Tactics
import Derived.Tactics2
import Derived.StillTactics
import Derived.Laws.Tables
import Derived.Laws.Unary
import Derived.Laws.Strings
import Derived.Laws.Strings2
import Derived.Laws.Entries
import Derived.Laws.RangeAny
import Derived.Laws.Strings3
import Derived.Laws.Sem
import Derived.Scope
import Derived.FnLit
import Derived.LoopTactic
import Derived.LoopN
import Derived.Laws.IdiomRangeMap
import Derived.Test.YtbkhoemaobbplaaGreatDoorEvBitsCW
import Derived.Test.YtbkhoemaobbplaaGreatDoorChk25
set_option linter.unusedSimpArgs false
set_option linter.unusedVariables false
namespace Go.Proofs.YtbkhoemaobbplaaGreatDoor
open Go
set_option maxRecDepth 1000000 in
theorem zEy(bm:Nat)(es:Array MapEntry)(clock:Nat)(want:Int)(key:ByteArray)(w:World)(hb:w.heap[bm]?=some (.map es clock))(rC:∀ x∈es.toList,x.born<clock)(BM:(es.toList.map (·.born)).Nodup)
    (hv:∀ x∈es.toList,∃ s v,x.key=.string s/\x.val=.int .u32 v/\(v=want->s=key)) (iI:(∀ x∈es.toList,¬valOf x.val=want)->key=⟨#[]⟩) :
    Calls Tryz.prog 142 #[.map (some bm),.int .u32 want] w fun e w'=>e=.returned (.string key)/\∃(w1:World) (o:Obj),w1.Alike w/\w1.tape=w.tape/\w'=w1.alloc o:=by
  have xl:=run_range_map (P:=Tryz.prog) w 203 9 25 bm es clock Tryz.underlying203 hb
  go_enter Tryz.func142,Tryz.ntmps142
  go_wp2
  go_loopw [] (fun w'=>∃(w1:World) (seen:Array Nat),w1.Alike w/\w1.tape=w.tape/\w'=w1.alloc (.mapIter (some bm) clock seen clock)/\∀ x∈es.toList,seen.contains x.born=true->¬valOf x.val=want) (fun w'=>(leftOf es (w'.iterSeen w.heap.size)).size)
  case atStart=>exact⟨w,#[],⟨rfl,rfl,rfl⟩,rfl,rfl,fun x _ h=>by simp at h⟩
  case round =>
    obtain⟨w1,seen,eg,LM,rfl,PU⟩:=hrel
    have dC:w1.heap.size=w.heap.size:=by rw[eg.1]
    have jC:w1.heap[bm]?=some (.map es clock):=by rw[eg.1];exact hb
    have law:=run_next_map (P:=Tryz.prog) w1 0 bm clock clock seen es clock jC rC (Nat.le_refl _);rw[dC] at law
    rcases law with⟨h0,bN⟩|⟨e,he,w2,jF,bN⟩
    · have Bi:∀ ty,(Instr.next (.pointer (some ⟨w.heap.size,0,none⟩)) false ty).run Tryz.prog (w1.alloc (.mapIter (some bm) clock seen clock))=_:=fun _=>bN
      go_wp2
      go_ret
      have hk:=iI fun x hx=>PU x hx (all_seen es seen h0 x hx);subst hk;exact⟨rfl,w1,_,eg,LM,rfl⟩
    · have Fc:(w2.alloc (.mapIter (some bm) clock (seen.push e.born) clock)).tape=(w1.alloc (.mapIter (some bm) clock seen clock)).tape:=Go.Ev.zt _ _ _ _ _ bN
      have Fc:w2.tape=w1.tape:=Fc;obtain⟨s,v,Js,kD,hsv⟩:=hv e (mem_left he).1;rw[Js,kD] at bN;have Bi:∀ ty,(Instr.next (.pointer (some ⟨w.heap.size,0,none⟩)) false ty).run Tryz.prog (w1.alloc (.mapIter (some bm) clock seen clock))=_:=fun _=>bN
      have JH:w2.heap.size=w.heap.size:=by rw[jF.1,eg.1]
      have iR:w2.heap[bm]?=some (.map es clock):=by rw[jF.1];exact jC
      have yl:=run_entry_map (P:=Tryz.prog) w2 bm clock seen es clock e iR (mem_left he).1 BM;rw[JH,Js,kD] at yl;have PW:w2.Alike w:=⟨jF.1.trans eg.1,jF.2.1.trans eg.2.1,jF.2.2.trans eg.2.2⟩
      go_wp2
      · rename_i heq
        go_ret
        have hk:s=key:=hsv (by simpa using heq);subst hk;exact⟨rfl,w2,_,PW,Fc.trans LM,rfl⟩
      · rename_i ay
        go_roundw
        case rel =>
          refine⟨w2,seen.push e.born,PW,Fc.trans LM,rfl,fun x hx hc=>?_⟩;rw[contains_push] at hc
          rcases Bool.or_eq_true _ _▸hc with h1|h1
          · exact PU x hx h1
          · have:x=e:=born_inj BM hx (mem_left he).1 (beq_iff_eq.1 h1)
            subst this;rw[kD];simpa[valOf] using ay
        case measure =>
          rw[<-JH,World.iterSeen_alloc,JH,<-dC,World.iterSeen_alloc];exact left_shrinks es seen e he
set_option maxRecDepth 1000000 in
theorem zxR(want:Int)(w:World) :
    Calls Tryz.prog 142 #[.map none,.int .u32 want] w fun e w'=>e=.returned (.string ⟨#[]⟩)/\∃(w1:World) (o:Obj),w1.Alike w/\w1.tape=w.tape/\w'=w1.alloc o:=by
  have xl:=run_range_nilMap (P:=Tryz.prog) w 203 9 25 Tryz.underlying203;have Bi:∀ ty,(Instr.next (.pointer (some ⟨w.heap.size,0,none⟩)) false ty).run Tryz.prog (w.alloc (.mapIter none 0 #[] 0))=_:=fun ty=>run_next_nilMap w ty 0 0 #[]
  go_enter Tryz.func142,Tryz.ntmps142
  go_wp2
  refine wp_loop_rounds 1 ?_;rw[rounds_succ]
  go_wp2
  go_ret
  exact⟨rfl,w,_,⟨rfl,rfl,rfl⟩,rfl,rfl⟩
theorem zIn:Go.Ev.mE Tryz.prog fm 393 0:=Go.Ev.DX ⟨_,Tryz.func142,rfl,by decide⟩ zEy zxR
theorem zwJ:∀ f c,dB f=some c->Go.Ev.tT Tryz.prog fm f c:=zC7 zIn
end Go.Proofs.YtbkhoemaobbplaaGreatDoor
