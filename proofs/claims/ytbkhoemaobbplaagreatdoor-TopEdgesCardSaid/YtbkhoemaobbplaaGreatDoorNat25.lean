/- names.name: a range over a map that leaves early: walked by hand. -/
import Derived.Test.YtbkhoemaobbplaaGreatDoorProg
import Derived.Tactics
import Derived.Tactics2
import Derived.StillTactics
import Derived.Laws.Tables
import Derived.Laws.Unary
import Derived.Laws.Strings
import Derived.Laws.Strings2
import Derived.Laws.Entries
import Derived.Laws.RangeAny
import Derived.Laws.Strings3
import Derived.Laws.Sem
import Derived.Scope
import Derived.FnLit
import Derived.LoopTactic
import Derived.LoopN
import Derived.Laws.IdiomRangeMap
import Derived.Test.YtbkhoemaobbplaaGreatDoorEvNat
import Derived.Test.YtbkhoemaobbplaaGreatDoorChk25
set_option linter.unusedSimpArgs false
set_option linter.unusedVariables false
namespace Go.Proofs.YtbkhoemaobbplaaGreatDoor
open Go
set_option maxRecDepth 1000000 in
theorem zDR(bm:Nat)(es:Array MapEntry)(clock:Nat)(want:Int)(key:ByteArray)(w:World)(hb:w.heap[bm]?=some (.map es clock))(rF:∀ x∈es.toList,x.born<clock)(BS:(es.toList.map (·.born)).Nodup)
    (hv:∀ x∈es.toList,∃ s v,x.key=.string s/\x.val=.int .u32 v/\(v=want->s=key)) (iJ:(∀ x∈es.toList,¬valOf x.val=want)->key=⟨#[]⟩) :
    Calls Tryz.prog 142 #[.map (some bm),.int .u32 want] w fun e w'=>e=.returned (.string key)/\∃(w1:World) (o:Obj),w1.Alike w/\w1.tape=w.tape/\w'=w1.alloc o:=by
  have xH:=run_range_map (P:=Tryz.prog) w 203 9 25 bm es clock Tryz.underlying203 hb
  go_enter Tryz.func142,Tryz.ntmps142
  go_wp2
  go_loopw [] (fun w'=>∃(w1:World) (seen:Array Nat),w1.Alike w/\w1.tape=w.tape/\w'=w1.alloc (.mapIter (some bm) clock seen clock)/\∀ x∈es.toList,seen.contains x.born=true->¬valOf x.val=want) (fun w'=>(leftOf es (w'.iterSeen w.heap.size)).size)
  case atStart=>exact⟨w,#[],⟨rfl,rfl,rfl⟩,rfl,rfl,fun x _ h=>by simp at h⟩
  case round =>
    obtain⟨w1,seen,dR,Lq,rfl,OU⟩:=hrel
    have dD:w1.heap.size=w.heap.size:=by rw[dR.1]
    have jC:w1.heap[bm]?=some (.map es clock):=by rw[dR.1];exact hb
    have law:=run_next_map (P:=Tryz.prog) w1 0 bm clock clock seen es clock jC rF (Nat.le_refl _);rw[dD] at law
    rcases law with⟨h0,bV⟩|⟨e,he,w2,jD,bV⟩
    · have Bd:∀ ty,(Instr.next (.pointer (some ⟨w.heap.size,0,none⟩)) false ty).run Tryz.prog (w1.alloc (.mapIter (some bm) clock seen clock))=_:=fun _=>bV
      go_wp2
      go_ret
      have hk:=iJ fun x hx=>OU x hx (all_seen es seen h0 x hx);subst hk;exact⟨rfl,w1,_,dR,Lq,rfl⟩
    · have EA:(w2.alloc (.mapIter (some bm) clock (seen.push e.born) clock)).tape=(w1.alloc (.mapIter (some bm) clock seen clock)).tape:=Go.Ev.zJ _ _ _ _ _ bV
      have EA:w2.tape=w1.tape:=EA;obtain⟨s,v,IU,l9,hsv⟩:=hv e (mem_left he).1;rw[IU,l9] at bV;have Bd:∀ ty,(Instr.next (.pointer (some ⟨w.heap.size,0,none⟩)) false ty).run Tryz.prog (w1.alloc (.mapIter (some bm) clock seen clock))=_:=fun _=>bV
      have IW:w2.heap.size=w.heap.size:=by rw[jD.1,dR.1]
      have iS:w2.heap[bm]?=some (.map es clock):=by rw[jD.1];exact jC
      have yo:=run_entry_map (P:=Tryz.prog) w2 bm clock seen es clock e iS (mem_left he).1 BS;rw[IW,IU,l9] at yo;have OV:w2.Alike w:=⟨jD.1.trans dR.1,jD.2.1.trans dR.2.1,jD.2.2.trans dR.2.2⟩
      go_wp2
      · rename_i heq
        go_ret
        have hk:s=key:=hsv (by simpa using heq);subst hk;exact⟨rfl,w2,_,OV,EA.trans Lq,rfl⟩
      · rename_i az
        go_roundw
        case rel =>
          refine⟨w2,seen.push e.born,OV,EA.trans Lq,rfl,fun x hx hc=>?_⟩;rw[contains_push] at hc
          rcases Bool.or_eq_true _ _▸hc with h1|h1
          · exact OU x hx h1
          · have:x=e:=born_inj BS hx (mem_left he).1 (beq_iff_eq.1 h1)
            subst this;rw[l9];simpa[valOf] using az
        case measure =>
          rw[<-IW,World.iterSeen_alloc,IW,<-dD,World.iterSeen_alloc];exact left_shrinks es seen e he
set_option maxRecDepth 1000000 in
theorem zxz(want:Int)(w:World) :
    Calls Tryz.prog 142 #[.map none,.int .u32 want] w fun e w'=>e=.returned (.string ⟨#[]⟩)/\∃(w1:World) (o:Obj),w1.Alike w/\w1.tape=w.tape/\w'=w1.alloc o:=by
  have xH:=run_range_nilMap (P:=Tryz.prog) w 203 9 25 Tryz.underlying203;have Bd:∀ ty,(Instr.next (.pointer (some ⟨w.heap.size,0,none⟩)) false ty).run Tryz.prog (w.alloc (.mapIter none 0 #[] 0))=_:=fun ty=>run_next_nilMap w ty 0 0 #[]
  go_enter Tryz.func142,Tryz.ntmps142
  go_wp2
  refine wp_loop_rounds 1 ?_;rw[rounds_succ]
  go_wp2
  go_ret
  exact⟨rfl,w,_,⟨rfl,rfl,rfl⟩,rfl,rfl⟩
theorem zIj:Go.Ev.mQ Tryz.prog fm 393 0:=Go.Ev.D9 ⟨_,Tryz.func142,rfl,by decide⟩ zDR zxz
theorem zDS:∀ f c,dC f=some c->Go.Ev.uj Tryz.prog fm f c:=zCZ zIj
end Go.Proofs.YtbkhoemaobbplaaGreatDoor
