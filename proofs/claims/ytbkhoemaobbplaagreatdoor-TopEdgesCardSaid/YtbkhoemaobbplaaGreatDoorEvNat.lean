/- A function that ranges over a map and leaves early, walked by hand: what it is to the evaluator. -/
import Derived.Laws.IdiomRangeMap
import Derived.Test.YtbkhoemaobbplaaGreatDoorEvLW
set_option linter.unusedSimpArgs false
set_option linter.unusedVariables false
open List renaming getElem?_eq_getElem→aaa,getElem?_eq_some_iff→aae,getElem?_of_mem→aaf,getElem?_map→aah,getElem?_eq_none→aaj,mem_of_getElem?→aak,length_map→aan
open Array renaming length_toList→aab
open Option renaming map_some→aai,some→aap
open Nat renaming le_refl→aao
namespace Go.Ev
open Go Go.RowKit
variable {P:Program} {fm:Fm}
def KT(P:Program){α:Type}(m:Sem α):Prop:=∀ w a w',m.run P w=.ok a w'->w'.tape=w.tape
theorem KT.pure{α:Type}(a:α):KT P (Pure.pure a:Sem α):=fun w b w' h=>by
 rw[Sem.run_pure] at h;cases h;rfl
theorem KT.bind{α β:Type}{m:Sem α}{f:α->Sem β}(h:KT P m)(k:∀ a,KT P (f a)):KT P (m >>= f):=fun w b w' e=>by
 rw[Sem.run_bind] at e
 cases hm:m.run P w with
 | ok a w1=>rw[hm,Result.andThen_ok] at e;exact(k a w1 b w' e).trans (h w a w1 hm)
 | _=>rw[hm] at e;simp[Result.andThen] at e
theorem KT.halt{α:Type}(x:Halt):KT P (Sem.halt x:Sem α):=fun w b w' h=>by simp[Sem.run] at h
theorem KT.getObj(r:Nat):KT P (Go.getObj r):=fun w b w' h=>by
 simp only[Go.getObj,Sem.run] at h;split at h
 ·cases h
 ·cases h;rfl
 ·cases h
theorem KT.setObj(r:Nat)(o:Obj):KT P (Go.setObj r o):=fun w b w' h=>by
 simp only[Go.setObj,Sem.run] at h;split at h
 ·cases h
 ·cases h;rfl
 ·cases h
theorem KT.choose(q:Question):KT P (Go.choose q):=fun w b w' h=>by
 simp only[Go.choose,Sem.run] at h
 split at h<;>cases h<;>rfl
theorem zJ(it:Value)(ty:TypeId):KT P (Instr.next it false ty):=by
 unfold Instr.next;split
 ·refine(KT.getObj _).bind fun o=>?_;split
  ·split
   ·exact(KT.setObj _ _).bind fun _=>KT.pure _
   ·exact KT.pure _
  ·exact KT.pure _
  ·refine(KT.getObj _).bind fun o=>?_;split
   ·split
    ·exact KT.halt _
    ·refine(KT.choose _).bind fun j=>?_;split
     ·exact(KT.setObj _ _).bind fun _=>KT.pure _
     ·exact KT.pure _
     ·exact KT.halt _
   ·exact KT.halt _
  ·exact KT.halt _
 ·exact KT.halt _
theorem zzx{w w1:World}{o:Obj}(h:w1.Alike w)(ht:w1.tape=w.tape):iR w (w1.alloc o):=by
 obtain⟨h1,h2,h3⟩:=h;refine⟨h2,ht,h3,?_,fun b hb=>?_⟩
 ·rw[<-h1];exact(iR.alloc w1 o).size
 ·rw[<-h1];exact(iR.alloc w1 o).block b (by rw[h1];exact hb)
theorem zFs{M:Mm}{w:World}{a b:V}{xs:List Value}(h:ai M w [a,b] xs):∃ x y,xs=[x,y]/\ar M w a x/\ar M w b y:=by simp only[ai] at h;obtain⟨x,_,rfl,h1,y,_,rfl,h2,rfl⟩:=h;exact⟨x,y,rfl,h1,h2⟩
theorem zrl:∀{l:List (List UInt8×Int)} {p:List UInt8×Int},(l.map (·.2)).Nodup->p∈l->l.find? (fun q=>q.2==p.2)=some p
 | q::l,p,hn,hp=>by
  simp only[List.map_cons,List.nodup_cons] at hn
  rcases List.mem_cons.1 hp with rfl|h
  ·simp
  ·have:(q.2==p.2)=false:=by
    cases hc:q.2==p.2 with
    | false=>rfl
    | true=>exact absurd (by rw[beq_iff_eq.1 hc];exact List.mem_map.2 ⟨p,h,rfl⟩) hn.1
   rw[List.find?_cons,this];exact zrl hn.2 h
theorem D9 {f : Nat} (hF : ∃ F, P.funcs[fm f]? = some F ∧ F.body.isSome = true ∧ F.name ≠ "runtime.NumGoroutine")
  (hw:∀(bm:Nat) (es:Array MapEntry) (clock:Nat) (want:Int) (key:ByteArray) (w:World),w.heap[bm]?=some (.map es clock)->(∀ x∈es.toList,x.born<clock)->(es.toList.map (·.born)).Nodup ->
   (∀ x∈es.toList,∃ s v,x.key=.string s/\x.val=.int .u32 v/\(v=want->s=key))->((∀ x∈es.toList,¬Go.valOf x.val=want)->key=⟨#[]⟩) ->
   Calls P (fm f) #[.map (some bm),.int .u32 want] w fun e w'=>e=.returned (.string key)/\∃(w1:World) (o:Obj),w1.Alike w/\w1.tape=w.tape/\w'=w1.alloc o)
  (hn:∀(want:Int) (w:World),Calls P (fm f) #[.map none,.int .u32 want] w fun e w'=>e=.returned (.string ⟨#[]⟩)/\∃(w1:World) (o:Obj),w1.Alike w/\w1.tape=w.tape/\w'=w1.alloc o):mQ P fm f 0:=by
 intro c args H r H' h
 have shut:∀{M:Mm} {w w':World} {s:List UInt8},aI M w H->(∃(w1:World) (o:Obj),w1.Alike w/\w1.tape=w.tape/\w'=w1.alloc o) ->
   ∃ rv M',Ending.returned (.string ⟨s.toArray⟩)=.returned rv/\ar M' w' (.str s) rv/\eH M H w M' H w'/\e_ M M' H.length/\aI M' w' H:=by
  rintro M w w' s hr ⟨w1,o,h1,h2,rfl⟩;obtain⟨s1,i1,r1⟩:=MX hr (zzx (o:=o) h1 h2) (Same.refl M _);exact⟨_,M,rfl,by simp only[ar],s1,i1,r1⟩
 unfold zr at h;split at h
 ·rename_i id n _;obtain⟨rfl,es,hb,mf,rfl⟩:=h;refine⟨aao _,fun M w jQ hm hr he=>⟨hF,?_⟩⟩;obtain⟨x,y,rfl,h1,h2⟩:=zFs he;simp only[ar] at h1 h2;obtain⟨_,rfl⟩:=h1;subst h2;have h0:=hr.rel id _ hb;simp only[aM] at h0;obtain⟨_,ents,hh,hk,hv,X3⟩:=h0;have hlen:=ik hk;simp only[aan,aab] at hlen
  have X4:∀ e∈ents.toList,∃ p∈es,e.key=.string ⟨p.1.toArray⟩/\e.val=.int .u32 p.2:=by
   intro e vT;obtain⟨i,hi⟩:=aaf vT
   have wL:i<es.length:=by have:=(aae.1 hi).1;rw[aab] at this;omega
   obtain⟨p,hp⟩:∃ p,es[i]?=some p:=⟨_,aaa wL⟩;obtain⟨x1,ym,oB⟩:=ou (i:=i) (c:=.str p.1) hk (by simp[hp]);obtain⟨y1,A5,CK⟩:=ou (i:=i) (c:=.int .u32 p.2) hv (by simp[hp]);rw[aah,hi,aai,aap.injEq] at ym A5;simp only[ar] at oB CK;exact⟨p,aak hp,ym.trans oB,A5.trans CK⟩
  have my:∀(i:Nat) (e:MapEntry),ents.toList[i]?=some e->e.born=i:=fun i e h=>X3 i e (by simpa using h)
  refine(hw _ ents _ n ⟨(((es.find? fun p=>p.2==n).map (·.1)).getD []).toArray⟩ w hh (fun e vT=>?_) ?_ (fun e vT=>?_) (fun iJ=>?_)).mono ?_
  ·obtain⟨i,hi⟩:=aaf vT;rw[my i e hi,aan];have:=(aae.1 hi).1;rw[aab] at this;omega
  ·have:ents.toList.map (·.born)=List.range ents.toList.length:=by
    refine List.ext_getElem? fun i=>?_;rw[aah]
    by_cases hi:i<ents.toList.length
    ·rw[List.getElem?_range hi,aaa hi,aai,my i _ (aaa hi)]
    ·rw[aaj an,aaj (by simp;simpa using hi)];rfl
   rw[this];exact List.nodup_range
  ·obtain⟨p,hp,h1,h2⟩:=X4 e vT;refine⟨_,p.2,h1,h2,fun e=>?_⟩;subst e;rw[zrl mf hp];rfl
  ·have:es.find? (fun p=>p.2==n)=none:=by rw[List.find?_eq_none];intro p hp hpe;obtain⟨i,hi⟩:=aaf hp;have wL:=(aae.1 hi).1;obtain⟨e,ve⟩:∃ e,ents.toList[i]?=some e:=⟨_,aaa (by rw[aab];omega)⟩;obtain⟨y1,A5,CK⟩:=ou (i:=i) (c:=.int .u32 p.2) hv (by simp[hi]);rw[aah,ve,aai,aap.injEq] at A5;simp only[ar] at CK;refine iJ e (aak ve) ?_;rw[A5,CK];simpa[Go.valOf] using hpe
   rw[this];rfl
  ·rintro e w' ⟨rfl,h⟩;exact shut hr h
 ·obtain⟨rfl,rfl⟩:=h;refine⟨aao _,fun M w jQ hm hr he=>⟨hF,?_⟩⟩;obtain⟨x,y,rfl,h1,h2⟩:=zFs he;simp only[ar] at h1 h2;subst h1 h2;refine(hn _ w).mono ?_;rintro e w' ⟨rfl,h⟩;exact shut hr h
 ·exact h.elim
end Go.Ev
