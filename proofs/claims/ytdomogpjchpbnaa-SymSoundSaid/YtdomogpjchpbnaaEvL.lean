/- Operations that may be done in either order. -/
import Derived.Test.YtdomogpjchpbnaaEvK
namespace Go.Ev
set_option linter.unusedSimpArgs false
set_option linter.unusedVariables false
open Go Go.RowKit

variable {P : Program} {M M' : Mm} {H H1 H2 : Heap} {w w' : World} {fm : Fm}

def X.uses : X → List Nat
  | .t i => [i]
  | .c _ => []
def usesXs : List X → List Nat
  | [] => []
  | x :: xs => x.uses ++ usesXs xs
def usesO : Option X → List Nat
  | none => []
  | some x => x.uses
def SOp.uses : SOp → List Nat
  | .loadC _ _ x => x.uses
  | .storeN _ _ a x => a.uses ++ x.uses
  | .mv x | .box _ x | .load _ _ _ x | .faddr _ x | .fld _ _ _ x | .un _ x | .conv _ x | .ext _ x | .len _ x | .nilck x | .mksl _ _ _ x => x.uses
  | .pick c a b => c.uses ++ a.uses ++ b.uses
  | .alloc _ _ => []
  | .build _ ps => usesXs (ps.map (·.2.2))
  | .bslice _ _ ps => usesXs (ps.map (·.2))
  | .bsliceR _ _ _ ps => usesXs (ps.map (·.2))
  | .store _ a x => a.uses ++ x.uses
  | .iaddr _ x i | .iaddrA _ _ x i | .idx _ _ _ x i | .bin _ x i | .beq _ x i | .app _ _ _ x i => x.uses ++ i.uses
  | .mkfn _ cap => usesXs cap
  | .slc _ x lo hi mx => x.uses ++ usesO lo ++ usesO hi ++ usesO mx
  | .nileq _ _ x | .b2s x | .i2s x | .s2b _ x | .rng _ x | .nxt x => x.uses
  | .mm _ xs => usesXs xs
  | .aeq _ _ x y | .sidx x y | .cpy _ x y | .mget _ _ _ x y | .ment _ _ x y => x.uses ++ y.uses
  | .sslc x lo hi | .slcA _ _ x lo hi => x.uses ++ usesO lo ++ usesO hi
  | .mkmap _ => []
  | .loadR _ _ r x => r :: x.uses
  | .storeA _ rs a x => rs ++ a.uses ++ x.uses
  | .mput _ x k v | .mst x k v => x.uses ++ k.uses ++ v.uses
  | .pcall _ xs | .scall _ xs | .kcall _ _ xs => usesXs xs
  | .scallA rs _ xs => rs ++ usesXs xs
  | .vcall _ f xs => f.uses ++ usesXs xs
def SOper.uses (o : SOper) : List Nat := o.op.uses ++ (match o.guard with | some (g, _) => [g] | none => [])

theorem X.ev_congr {e f : Env} {x : X} (h : ∀ i ∈ x.uses, f i = e i) : x.ev f = x.ev e := by
  cases x with
  | t i => exact h i (by simp [X.uses])
  | c v => rfl
theorem map_ev_congr {e f : Env} : ∀ {xs : List X}, (∀ i ∈ usesXs xs, f i = e i) → xs.map (X.ev f) = xs.map (X.ev e)
  | [], _ => rfl
  | x :: xs, h => by
    simp only [usesXs, List.mem_append] at h
    simp only [List.map_cons, X.ev_congr (fun i hi => h i (.inl hi)), map_ev_congr (fun i hi => h i (.inr hi))]
theorem fillC_congr {e f : Env} : ∀ {ps : List (Nat × Nat × X)} {cs : List V}, (∀ i ∈ usesXs (ps.map (·.2.2)), f i = e i) → fillC f cs ps = fillC e cs ps
  | [], _, _ => rfl
  | (off, sz, x) :: ps, cs, h => by
    simp only [List.map_cons, usesXs, List.mem_append] at h
    simp only [fillC, X.ev_congr (fun i hi => h i (.inl hi))]
    split
    · split
      · exact fillC_congr (fun i hi => h i (.inr hi))
      · rfl
    · rfl
theorem fillE_congr {e f : Env} {sz : Nat} : ∀ {ps : List (Nat × X)} {es : List (List V)}, (∀ i ∈ usesXs (ps.map (·.2)), f i = e i) → fillE f sz es ps = fillE e sz es ps
  | [], _, _ => rfl
  | (j, x) :: ps, es, h => by
    simp only [List.map_cons, usesXs, List.mem_append] at h
    simp only [fillE, X.ev_congr (fun i hi => h i (.inl hi))]
    split
    · split
      · exact fillE_congr (fun i hi => h i (.inr hi))
      · rfl
    · rfl
theorem bounds_congr {e f : Env} {len : Nat} {lo hi mx : Option X} (h1 : ∀ i ∈ usesO lo, f i = e i) (h2 : ∀ i ∈ usesO hi, f i = e i) (h3 : ∀ i ∈ usesO mx, f i = e i) : bounds f len lo hi mx = bounds e len lo hi mx := by
  unfold bounds
  cases lo <;> cases hi <;> cases mx <;> simp only [usesO] at h1 h2 h3 <;> (try simp only [X.ev_congr h1]) <;> (try simp only [X.ev_congr h2]) <;> (try simp only [X.ev_congr h3]) <;> (try rfl)

theorem mmGo_congr {e f : Env} {mx : Bool} {k : IntKind} : ∀ {xs : List X} {p : Int}, (∀ i ∈ usesXs xs, f i = e i) → mmGo f mx k p xs = mmGo e mx k p xs
  | [], _, _ => rfl
  | x :: xs, p, h => by
    simp only [usesXs, List.mem_append] at h
    simp only [mmGo, X.ev_congr (fun i hi => h i (.inl hi))]
    split
    · split
      · exact mmGo_congr (fun i hi => h i (.inr hi))
      · rfl
    · rfl
theorem ev1_congr {base : Nat} {e f : Env} {s : SOp} (h : ∀ i ∈ s.uses, f i = e i) : ev1 base f H s = ev1 base e H s := by
  cases s <;> simp only [SOp.uses, List.mem_append] at h <;> simp only [ev1]
  case mv | box | load | loadC | faddr | fld | un | conv | ext | len | nilck | mksl | nileq | b2s | i2s | s2b | rng | nxt => rw [X.ev_congr h]
  case mm mx xs =>
    cases xs with
    | nil => rfl
    | cons x xs =>
      simp only [usesXs, List.mem_append] at h
      simp only [X.ev_congr (fun i hi => h i (.inl hi)), mmGo_congr (fun i hi => h i (.inr hi))]
  case loadR =>
    simp only [List.mem_cons] at h
    rw [X.ev_congr (fun i hi => h i (.inr hi)), h _ (.inl rfl)]
  case storeA sz rs a x =>
    have hr : rs.map f = rs.map e := List.map_congr_left fun r hr => h r (.inl (.inl hr))
    have hall : ∀ id, rs.all (fun r => (f r).ptrId? != some id) = rs.all (fun r => (e r).ptrId? != some id) := by
      intro id
      have h1 : ∀ g : Env, rs.all (fun r => (g r).ptrId? != some id) = (rs.map g).all (fun v => v.ptrId? != some id) := fun g => by rw [List.all_map]; rfl
      rw [h1, h1, hr]
    rw [X.ev_congr (fun i hi => h i (.inl (.inr hi))), X.ev_congr (fun i hi => h i (.inr hi))]
    simp only [hall]
  case mput | mst => rw [X.ev_congr (fun i hi => h i (.inl (.inl hi))), X.ev_congr (fun i hi => h i (.inl (.inr hi))), X.ev_congr (fun i hi => h i (.inr hi))]
  case sslc | slcA =>
    rw [X.ev_congr (fun i hi => h i (.inl (.inl hi)))]
    simp only [bounds_congr (fun i hi => h i (.inl (.inr hi))) (fun i hi => h i (.inr hi)) (fun i hi => by simp [usesO] at hi : ∀ i ∈ usesO none, f i = e i)]
  case pick => rw [X.ev_congr (fun i hi => h i (.inl (.inl hi))), X.ev_congr (fun i hi => h i (.inl (.inr hi))), X.ev_congr (fun i hi => h i (.inr hi))]
  case build => rw [fillC_congr h]
  case bslice => rw [fillE_congr h]
  case bsliceR s n z ps => rw [fillC_congr (ps := ps.map fun q => (q.1 * z.length, z.length, q.2)) (by rw [List.map_map]; exact h)]
  case store | storeN | iaddr | iaddrA | idx | bin | beq | app | aeq | sidx | cpy | mget | ment => rw [X.ev_congr (fun i hi => h i (.inl hi)), X.ev_congr (fun i hi => h i (.inr hi))]
  case mkfn => rw [map_ev_congr h]
  case slc =>
    rw [X.ev_congr (fun i hi => h i (.inl (.inl (.inl hi))))]
    split
    · rw [bounds_congr (fun i hi => h i (.inl (.inl (.inr hi)))) (fun i hi => h i (.inl (.inr hi))) (fun i hi => h i (.inr hi))]
    · rw [bounds_congr (fun i hi => h i (.inl (.inl (.inr hi)))) (fun i hi => h i (.inl (.inr hi))) (fun i hi => h i (.inr hi))]
    · rfl

theorem wanted_congr {e f : Env} {o : SOper} (h : ∀ i ∈ o.uses, f i = e i) : wanted f o = wanted e o := by
  unfold wanted
  split
  · rfl
  · rename_i g want hg
    rw [h g (by simp [SOper.uses, hg])]

/-- A block that a load reads, by a pointer to it; the pointers to whose blocks a store does not write. -/
def SOp.root : SOp → Option Nat
  | .loadR _ _ r _ => some r
  | _ => none
/-- Its own place in the region's blocks. -/
def SOp.slot : SOp → Option Nat
  | .box s _ | .alloc s _ | .mksl s _ _ _ | .bsliceR s _ _ _ | .storeN s _ _ _ => some s
  | _ => none
def SOp.avoid : SOp → List Nat
  | .storeA _ rs _ _ => rs
  | .scallA rs _ _ => rs
  | _ => []
/-- 6: it reads one block; 7: it writes into a block, but not into some; 8: a call that makes blocks, and changes none; 0: of temporaries alone; 1: it reads elder blocks; 2: it makes a block at its own place; 3: it reads all; 5: it begins a zone, or one grows; 4: all else. -/
def SOp.cls : SOp → Nat
  | .load _ _ true _ => 1
  | .load _ _ false _ => 3
  | .box _ _ | .alloc _ _ | .mksl _ _ _ _ | .bsliceR _ _ _ _ => 2
  | .app _ _ _ _ _ => 5
  | .vcall true _ _ => 3
  | .kcall true _ _ => 8
  | .loadR _ _ _ _ => 6
  | .storeA _ _ _ _ => 7
  | .storeN _ _ _ _ => 9
  | .scallA _ _ _ => 10
  | .mget _ _ _ _ _ => 3
  | .store _ _ _ | .scall _ _ | .vcall false _ _ | .s2b _ _ | .mkmap _ | .mput _ _ _ _ | .ment _ _ _ _ | .mst _ _ _ | .rng _ _ | .nxt _ | .cpy _ _ _ | .kcall false _ _ => 4
  | _ => 0

/-- Elder blocks of cells are as they were. -/
def CellsAs (base : Nat) (H Hb : Heap) : Prop := ∀ (id : Nat) (cs : List V), id < base → H[id]? = some (some (.cells cs)) → Hb[id]? = some (some (.cells cs))
/-- A place for a zone: one that is free, at the region's end; or a zone. -/
def ZoneLike (base : Nat) (H : Heap) (id : Nat) : Prop := (base ≤ id ∧ isFree H id = true) ∨ ∃ k, H[id]? = some (some (.zone k))

/-- What may be said of one step, by its class. -/
structure Chr (P : Program) (fm : Fm) (base : Nat) (o : SOper) (e : Env) (H : Heap) (e1 : Env) (H1 : Heap) (v : V) : Prop where
  env : e1 = e.put o.dst v
  same : ∀ f, (∀ i ∈ o.uses, f i = e i) → SS P fm base o f H (f.put o.dst v) H1
  c0 : o.op.cls = 0 → H1 = H ∧ ∀ f Hb, (∀ i ∈ o.uses, f i = e i) → SS P fm base o f Hb (f.put o.dst v) Hb
  c1 : o.op.cls = 1 → H1 = H ∧ ∀ f Hb, (∀ i ∈ o.uses, f i = e i) → CellsAs base H Hb → SS P fm base o f Hb (f.put o.dst v) Hb
  c2 : o.op.cls = 2 → (H1 = H ∧ ∀ f Hb, (∀ i ∈ o.uses, f i = e i) → SS P fm base o f Hb (f.put o.dst v) Hb) ∨
    ∃ s blk, o.op.slot = some s ∧ (∃ cs, blk = Blk.cells cs) ∧ isFree H (base + s) = true ∧ H1 = H.set (base + s) (some blk) ∧ ∀ f Hb, (∀ i ∈ o.uses, f i = e i) → isFree Hb (base + s) = true → SS P fm base o f Hb (f.put o.dst v) (Hb.set (base + s) (some blk))
  c3 : o.op.cls = 3 → H1 = H
  c6 : o.op.cls = 6 → H1 = H ∧ ∀ f Hb, (∀ i ∈ o.uses, f i = e i) → (∀ r id, o.op.root = some r → (e r).ptrId? = some id → Hb[id]? = H[id]?) → SS P fm base o f Hb (f.put o.dst v) Hb
  c7 : o.op.cls = 7 → (H1 = H ∧ ∀ f Hb, (∀ i ∈ o.uses, f i = e i) → SS P fm base o f Hb (f.put o.dst v) Hb) ∨
    ∃ id blk, H1 = H.set id (some blk) ∧ ∀ r ∈ o.op.avoid, (e r).ptrId? ≠ some id
  c8 : o.op.cls = 8 → CellsAs base H H1 ∧ CellsAs base H1 H
  c5 : o.op.cls = 5 → (H1 = H ∧ ∀ f Hb, (∀ i ∈ o.uses, f i = e i) → SS P fm base o f Hb (f.put o.dst v) Hb) ∨
    ∃ id k, ZoneLike base H id ∧ H1 = H.set id (some (.zone k)) ∧ ∀ f Hb, (∀ i ∈ o.uses, f i = e i) → Hb[id]? = H[id]? → SS P fm base o f Hb (f.put o.dst v) (Hb.set id (some (.zone k)))
  c9 : o.op.cls = 9 → (H1 = H ∧ ∀ f Hb, (∀ i ∈ o.uses, f i = e i) → SS P fm base o f Hb (f.put o.dst v) Hb) ∨
    ∃ s cs blk, o.op.slot = some s ∧ H[base + s]? = some (some (.cells cs)) ∧ H1 = H.set (base + s) (some blk) ∧ ∀ f Hb, (∀ i ∈ o.uses, f i = e i) → Hb[base + s]? = H[base + s]? → SS P fm base o f Hb (f.put o.dst v) (Hb.set (base + s) (some blk))
  c10 : o.op.cls = 10 → Leaves e o.op.avoid H H1

theorem ev1_c0 {base : Nat} {e : Env} {s : SOp} {v : V} (h : ev1 base e H s = some (v, H1)) (hc : s.cls = 0) : H1 = H ∧ ∀ Hb, ev1 base e Hb s = some (v, Hb) := by
  cases s <;> simp only [SOp.cls, reduceCtorEq, Nat.succ_ne_self] at hc <;> simp only [ev1] at h ⊢
  case mv | mkfn => simp only [Option.some.injEq, Prod.mk.injEq] at h; obtain ⟨rfl, rfl⟩ := h; simp
  case bin | un =>
    rw [Option.map_eq_some_iff] at h
    obtain ⟨u, hu, h⟩ := h
    cases h
    exact ⟨rfl, fun Hb => by rw [hu]; rfl⟩
  case load sz ag old x => cases old <;> simp [SOp.cls] at hc
  case vcall ro f xs => cases h
  case kcall ro f xs => cases h
  all_goals
    revert h
    repeat' split
    all_goals intro h
    all_goals first
      | (cases h; done)
      | (simp only [Option.some.injEq, Prod.mk.injEq] at h; obtain ⟨rfl, rfl⟩ := h; exact ⟨rfl, fun _ => rfl⟩)
      | (rw [Option.map_eq_some_iff] at h; obtain ⟨u, hu, h⟩ := h; cases h; exact ⟨rfl, fun Hb => by rw [hu]; rfl⟩)

theorem ev1_c1 {base : Nat} {e : Env} {s : SOp} {v : V} (h : ev1 base e H s = some (v, H1)) (hc : s.cls = 1) : H1 = H ∧ ∀ Hb : Heap, CellsAs base H Hb → ev1 base e Hb s = some (v, Hb) := by
  cases s with
  | load sz ag old x =>
    cases old
    · simp [SOp.cls] at hc
    · simp only [ev1] at h ⊢
      split at h
      · rename_i id off hp
        split at h
        · cases h
        · rename_i hlt
          split at h
          · rename_i cs hb
            split at h
            · rename_i hle
              rw [Option.map_eq_some_iff] at h
              obtain ⟨u, hu, h⟩ := h
              cases h
              refine ⟨rfl, fun Hb hag => ?_⟩
              rw [if_neg hlt, hag id cs (by simp at hlt; omega) hb]
              simp only
              rw [if_pos hle, hu]
              rfl
            · cases h
          · cases h
      · split at h
        · rename_i hle
          rw [Option.map_eq_some_iff] at h
          obtain ⟨u, hu, h⟩ := h
          cases h
          refine ⟨rfl, fun Hb _ => ?_⟩
          rw [if_pos hle, hu]
          rfl
        · cases h
      · cases h
  | vcall ro f xs => cases ro <;> simp [SOp.cls] at hc
  | kcall ro f xs => cases ro <;> simp [SOp.cls] at hc
  | _ => simp [SOp.cls] at hc

theorem SS.chr {base : Nat} {o : SOper} {e e1 : Env} (h : SS P fm base o e H e1 H1) : ∃ v, Chr P fm base o e H e1 H1 v := by
  have sub : ∀ {f : Env}, (∀ i ∈ o.uses, f i = e i) → ∀ i ∈ o.op.uses, f i = e i := fun h i hi => h i (by simp [SOper.uses, hi])
  cases h with
  | ev hw hv =>
    rename_i v
    have all : ∀ f Hb H2, (∀ i ∈ o.uses, f i = e i) → ev1 base e Hb o.op = some (v, H2) → SS P fm base o f Hb (f.put o.dst v) H2 :=
      fun f Hb H2 hf h => SS.ev (by rw [wanted_congr hf]; exact hw) (by rw [ev1_congr (sub hf)]; exact h)
    have hno : o.op.cls ≠ 8 := by
      intro hc
      unfold SOp.cls at hc
      split at hc <;> first | (cases hc; done) | skip
      rename_i hop
      rw [hop] at hv; simp [ev1] at hv
    refine ⟨v, rfl, fun f hf => all f H H1 hf hv, ?_, ?_, ?_, ?_, ?_, ?_, fun hc => absurd hc hno, ?_, ?_, ?_⟩
    · intro hc
      obtain ⟨h1, h2⟩ := ev1_c0 hv hc
      exact ⟨h1, fun f Hb hf => all f Hb Hb hf (h2 Hb)⟩
    · intro hc
      obtain ⟨h1, h2⟩ := ev1_c1 hv hc
      exact ⟨h1, fun f Hb hf hag => all f Hb Hb hf (h2 Hb hag)⟩
    · intro hc
      right
      cases hs : o.op with
      | box s x =>
        rw [hs] at hv
        simp only [ev1] at hv
        split at hv
        case h_2 => cases hv
        rename_i cs hcs
        split at hv
        case isFalse => cases hv
        rename_i hf
        cases hv
        refine ⟨s, .cells cs, rfl, ⟨_, rfl⟩, hf, rfl, fun f Hb hfe hfree => all f Hb _ hfe ?_⟩
        rw [hs]
        simp only [ev1, hcs]
        rw [if_pos hfree]
      | alloc s z =>
        rw [hs] at hv
        simp only [ev1] at hv
        split at hv
        case isFalse => cases hv
        rename_i hf
        cases hv
        refine ⟨s, .cells z, rfl, ⟨_, rfl⟩, hf, rfl, fun f Hb hfe hfree => all f Hb _ hfe ?_⟩
        rw [hs]
        simp only [ev1]
        rw [if_pos hfree]
      | mksl s bytes z x =>
        rw [hs] at hv
        simp only [ev1] at hv
        split at hv
        case h_2 => cases hv
        rename_i kd k hk
        split at hv
        case isFalse => cases hv
        rename_i hf
        cases hv
        refine ⟨s, .cells (List.replicate k.toNat z).flatten, rfl, ⟨_, rfl⟩, hf.1, rfl, fun f Hb hfe hfree => all f Hb _ hfe ?_⟩
        rw [hs]
        simp only [ev1, hk]
        rw [if_pos ⟨hfree, hf.2⟩]
      | bsliceR s k z ps =>
        rw [hs] at hv
        simp only [ev1] at hv
        split at hv
        case isFalse => cases hv
        rename_i hf
        split at hv
        case h_2 => cases hv
        rename_i cs hcs
        cases hv
        refine ⟨s, .cells cs, rfl, ⟨_, rfl⟩, hf, rfl, fun f Hb hfe hfree => all f Hb _ hfe ?_⟩
        rw [hs]
        simp only [ev1, hcs]
        rw [if_pos hfree]
      | load sz ag old x => rw [hs] at hc; cases old <;> simp [SOp.cls] at hc
      | vcall ro f xs => rw [hs] at hc; cases ro <;> simp [SOp.cls] at hc
      | kcall ro f xs => rw [hs] at hc; cases ro <;> simp [SOp.cls] at hc
      | _ => rw [hs] at hc; simp [SOp.cls] at hc
    · intro hc
      cases hs : o.op with
      | load sz ag old x =>
        rw [hs] at hv
        simp only [ev1] at hv
        revert hv
        repeat' split
        all_goals intro hv
        all_goals first
          | (cases hv; done)
          | (rw [Option.map_eq_some_iff] at hv; obtain ⟨u, hu, hv⟩ := hv; cases hv; rfl)
      | vcall ro f xs => rw [hs] at hv; simp [ev1] at hv
      | kcall ro f xs => rw [hs] at hv; simp [ev1] at hv
      | mget ks ok z x k =>
        rw [hs] at hv
        simp only [ev1] at hv
        revert hv
        repeat' split
        all_goals intro hv
        all_goals first
          | (cases hv; done)
          | (cases hv; rfl)
      | _ => rw [hs] at hc; simp [SOp.cls] at hc
    · intro hc
      cases hs : o.op with
      | loadR sz ag r x =>
        rw [hs] at hv
        have hv0 := hv
        simp only [ev1] at hv
        split at hv
        case h_2 => cases hv
        rename_i id off hp
        split at hv
        case isFalse => cases hv
        rename_i hid
        have hsame := loadAt_same hv
        subst hsame
        refine ⟨rfl, fun f Hb hf hag => all f Hb Hb hf ?_⟩
        have hg := hag r id (by simp [SOp.root]) hid
        rw [hs]
        simp only [ev1, hp]
        rw [if_pos hid]
        unfold loadAt at hv ⊢
        rw [hg]
        revert hv
        repeat' split
        all_goals intro hv
        all_goals first
          | (cases hv; done)
          | (rw [Option.map_eq_some_iff] at hv ⊢; obtain ⟨u, hu, hv⟩ := hv; cases hv; exact ⟨_, hu, rfl⟩)
      | load sz ag old x => rw [hs] at hc; cases old <;> simp [SOp.cls] at hc
      | vcall ro f xs => rw [hs] at hc; cases ro <;> simp [SOp.cls] at hc
      | kcall ro f xs => rw [hs] at hc; cases ro <;> simp [SOp.cls] at hc
      | _ => rw [hs] at hc; simp [SOp.cls] at hc
    · intro hc
      cases hs : o.op with
      | storeA sz rs x y =>
        rw [hs] at hv
        simp only [ev1] at hv
        split at hv
        case h_2 => cases hv
        rename_i id off hp
        split at hv
        case isFalse => cases hv
        rename_i hav
        obtain ⟨cs, hh⟩ := storeAt_set hv
        refine .inr ⟨id, _, hh, fun r hr => ?_⟩
        rw [List.all_eq_true] at hav
        simpa using hav r hr
      | load sz ag old x => rw [hs] at hc; cases old <;> simp [SOp.cls] at hc
      | vcall ro f xs => rw [hs] at hc; cases ro <;> simp [SOp.cls] at hc
      | kcall ro f xs => rw [hs] at hc; cases ro <;> simp [SOp.cls] at hc
      | _ => rw [hs] at hc; simp [SOp.cls] at hc
    · intro hc
      cases hs : o.op with
      | app s sz bytes x y =>
        rw [hs] at hv
        simp only [ev1] at hv
        split at hv
        case h_2 => cases hv
        rename_i es tk fs hx hy
        split at hv
        · rename_i hfs
          cases hv
          refine .inl ⟨rfl, fun f Hb hf => all f Hb Hb hf ?_⟩
          rw [hs]
          simp only [ev1, hx, hy]
          rw [if_pos hfs]
        · rename_i hfs
          split at hv
          case isFalse => cases hv
          rename_i hg
          right
          cases tk with
          | no => cases hv
          | full =>
            simp only at hv
            split at hv
            case isFalse => cases hv
            rename_i hfree
            cases hv
            refine ⟨base + s, _, .inl ⟨Nat.le_add_right _ _, hfree⟩, rfl, fun f Hb hf hid => all f Hb _ hf ?_⟩
            rw [hs]
            simp only [ev1, hx, hy]
            rw [if_neg hfs, if_pos hg, if_pos (by rw [isFree_iff] at hfree ⊢; rw [hid]; exact hfree)]
          | own q =>
            simp only at hv
            split at hv
            case h_2 => cases hv
            rename_i k hq
            split at hv
            case isFalse => cases hv
            rename_i hk
            cases hv
            refine ⟨q, _, .inr ⟨k, hq⟩, rfl, fun f Hb hf hid => all f Hb _ hf ?_⟩
            rw [hs]
            simp only [ev1, hx, hy]
            rw [if_neg hfs, if_pos hg, hid, hq]
            simp only
            rw [if_pos hk]
      | load sz ag old x => rw [hs] at hc; cases old <;> simp [SOp.cls] at hc
      | vcall ro f xs => rw [hs] at hc; cases ro <;> simp [SOp.cls] at hc
      | kcall ro f xs => rw [hs] at hc; cases ro <;> simp [SOp.cls] at hc
      | _ => rw [hs] at hc; simp [SOp.cls] at hc
    · intro hc
      cases hs : o.op with
      | storeN s sz x y =>
        rw [hs] at hv
        simp only [ev1] at hv
        split at hv
        case h_2 => cases hv
        rename_i id off hp
        split at hv
        case isFalse => cases hv
        rename_i hid
        subst hid
        right
        unfold storeAt at hv
        split at hv
        case h_2 => cases hv
        rename_i ds cs hds hcs
        split at hv
        case isFalse => cases hv
        rename_i hle
        cases hv
        refine ⟨s, cs, _, rfl, hcs, rfl, fun f Hb hfe hag => all f Hb _ hfe ?_⟩
        rw [hs]
        simp only [ev1, hp]
        rw [if_pos trivial]
        unfold storeAt
        rw [hds, hag, hcs]
        simp only
        rw [if_pos hle]
      | load sz ag old x => rw [hs] at hc; cases old <;> simp [SOp.cls] at hc
      | vcall ro f xs => rw [hs] at hc; cases ro <;> simp [SOp.cls] at hc
      | kcall ro f xs => rw [hs] at hc; cases ro <;> simp [SOp.cls] at hc
      | _ => rw [hs] at hc; simp [SOp.cls] at hc
    · intro hc
      exfalso
      unfold SOp.cls at hc
      split at hc <;> first | (cases hc; done) | skip
      rename_i hop
      rw [hop] at hv; simp [ev1] at hv
  | skip hw =>
    have all : ∀ f Hb, (∀ i ∈ o.uses, f i = e i) → SS P fm base o f Hb (f.put o.dst .skp) Hb := fun f Hb hf => SS.skip (by rw [wanted_congr hf]; exact hw)
    exact ⟨.skp, rfl, fun f hf => all f H hf, fun _ => ⟨rfl, fun f Hb hf => all f Hb hf⟩, fun _ => ⟨rfl, fun f Hb hf _ => all f Hb hf⟩, fun _ => .inl ⟨rfl, fun f Hb hf => all f Hb hf⟩, fun _ => rfl, fun _ => ⟨rfl, fun f Hb hf _ => all f Hb hf⟩, fun _ => .inl ⟨rfl, fun f Hb hf => all f Hb hf⟩, fun _ => ⟨fun _ _ _ h => h, fun _ _ _ h => h⟩, fun _ => .inl ⟨rfl, fun f Hb hf => all f Hb hf⟩, fun _ => .inl ⟨rfl, fun f Hb hf => all f Hb hf⟩, fun _ _ _ _ _ => rfl⟩
  | pcall hw hop hf =>
    rename_i g xs r H2
    have all : ∀ f Hb, (∀ i ∈ o.uses, f i = e i) → SS P fm base o f Hb (f.put o.dst (frz H2 r).out) Hb := fun f Hb hfe =>
      SS.pcall (by rw [wanted_congr hfe]; exact hw) hop (by rw [map_ev_congr (fun i hi => sub hfe i (by rw [hop]; exact hi))]; exact hf)
    refine ⟨(frz H2 r).out, rfl, fun f hfe => all f H hfe, fun _ => ⟨rfl, all⟩, ?_, ?_, ?_, ?_, ?_, ?_, ?_, ?_, ?_⟩ <;> (intro hc; exfalso; rw [hop] at hc; cases hc)
  | scall hw hop hf =>
    rename_i g xs r H2
    refine ⟨r.cl H.length, rfl, fun f hfe => SS.scall (by rw [wanted_congr hfe]; exact hw) hop (by rw [map_ev_congr (fun i hi => sub hfe i (by rw [hop]; exact hi))]; exact hf), ?_, ?_, ?_, ?_, ?_, ?_, ?_, ?_, ?_, ?_⟩ <;>
      (intro hc; exfalso; rw [hop] at hc; cases hc)
  | scallA hw hop hf hlv =>
    rename_i rs g xs r H2
    have hrs : ∀ f : Env, (∀ i ∈ o.uses, f i = e i) → ∀ i ∈ rs, f i = e i := fun f hfe i hi => sub hfe i (by rw [hop]; simp only [SOp.uses, List.mem_append]; exact .inl hi)
    have hxs : ∀ f : Env, (∀ i ∈ o.uses, f i = e i) → ∀ i ∈ usesXs xs, f i = e i := fun f hfe i hi => sub hfe i (by rw [hop]; simp only [SOp.uses, List.mem_append]; exact .inr hi)
    refine ⟨r.cl H.length, rfl, fun f hfe => SS.scallA (by rw [wanted_congr hfe]; exact hw) hop (by rw [map_ev_congr (hxs f hfe)]; exact hf) (fun q hq id hid => hlv q hq id (by rw [← hrs f hfe q hq]; exact hid)), ?_, ?_, ?_, ?_, ?_, ?_, ?_, ?_, ?_, ?_⟩
    case refine_10 => intro _; rw [hop]; exact hlv
    all_goals (intro hc; exfalso; rw [hop] at hc; cases hc)
  | kcall hw hop hf hro =>
    rename_i ro g xs r
    refine ⟨r, rfl, fun f hfe => SS.kcall (by rw [wanted_congr hfe]; exact hw) hop (by rw [map_ev_congr (fun i hi => sub hfe i (by rw [hop]; exact hi))]; exact hf) hro, ?_, ?_, ?_, ?_, ?_, ?_, ?_, ?_, ?_, ?_⟩
    case refine_7 =>
      intro hc
      rw [hop] at hc
      cases ro with
      | false => simp [SOp.cls] at hc
      | true =>
        obtain ⟨hb, ht⟩ := hro rfl
        have same : ∀ id, id < base → H1[id]? = H[id]? := fun id hid => by
          have h1 : (H1.take H.length)[id]? = H[id]? := by rw [ht]
          rw [List.getElem?_take, if_pos (by omega)] at h1
          exact h1
        exact ⟨fun id cs hid h => by rw [same id hid]; exact h, fun id cs hid h => by rw [same id hid] at h; exact h⟩
    all_goals (intro hc; exfalso; rw [hop] at hc; cases ro <;> simp [SOp.cls] at hc)
  | vcall hw hop hfx hf hro =>
    rename_i ro fx xs g cap r H2
    refine ⟨r.cl H.length, rfl, fun f hfe => ?_, ?_, ?_, ?_, ?_, ?_, ?_, ?_, ?_, ?_, ?_⟩
    · have hu := sub hfe
      rw [hop] at hu
      simp only [SOp.uses, List.mem_append] at hu
      exact SS.vcall (by rw [wanted_congr hfe]; exact hw) hop (by rw [X.ev_congr (fun i hi => hu i (.inl hi))]; exact hfx) (by rw [map_ev_congr (fun i hi => hu i (.inr hi))]; exact hf) hro
    · intro hc; rw [hop] at hc; cases ro <;> simp [SOp.cls] at hc
    · intro hc; rw [hop] at hc; cases ro <;> simp [SOp.cls] at hc
    · intro hc; rw [hop] at hc; cases ro <;> simp [SOp.cls] at hc
    · intro hc
      rw [hop] at hc
      cases ro with
      | true => exact hro rfl
      | false => simp [SOp.cls] at hc
    · intro hc; rw [hop] at hc; cases ro <;> simp [SOp.cls] at hc
    · intro hc; rw [hop] at hc; cases ro <;> simp [SOp.cls] at hc
    · intro hc; rw [hop] at hc; cases ro <;> simp [SOp.cls] at hc
    · intro hc; rw [hop] at hc; cases ro <;> simp [SOp.cls] at hc
    · intro hc; rw [hop] at hc; cases ro <;> simp [SOp.cls] at hc
    · intro hc; rw [hop] at hc; cases ro <;> simp [SOp.cls] at hc

def compat (a b : Nat) : Bool :=
  match a, b with
  | 0, _ => true
  | _, 0 => true
  | 1, 1 | 1, 2 | 2, 1 | 2, 2 | 1, 3 | 3, 1 | 3, 3 | 1, 5 | 5, 1 | 2, 5 | 5, 2 | 6, 6 | 6, 7 | 7, 6 | 1, 8 | 8, 1 | 1, 9 | 9, 1 | 2, 9 | 9, 2 | 9, 9 | 6, 10 | 10, 6 => true
  | _, _ => false
/-- What one reads the other does not write. -/
def apart (o p : SOp) : Bool :=
  (match o.root with | some r => (p.cls != 7 && p.cls != 10) || p.avoid.contains r | none => true) && (match p.root with | some r => (o.cls != 7 && o.cls != 10) || o.avoid.contains r | none => true) &&
    (match o.slot, p.slot with | some s, some s' => s != s' || (o.cls != 9 && p.cls != 9) | _, _ => true)
def indep (o p : SOper) : Bool :=
  apart o.op p.op && compat o.op.cls p.op.cls && (match o.dst with | some d => !(p.uses.contains d) && p.dst != some d | none => true) && (match p.dst with | some d => !(o.uses.contains d) | none => true)

theorem put_agree {e : Env} {d : Option Nat} {v : V} {us : List Nat} (h : (match d with | some d => !(us.contains d) | none => true) = true) : ∀ i ∈ us, e.put d v i = e i := by
  intro i hi
  cases d with
  | none => rfl
  | some d =>
    simp only [Bool.not_eq_true', List.contains_eq_mem, decide_eq_false_iff_not] at h
    rw [Env.put_some, if_neg (fun (he : i = d) => h (by rw [← he]; exact hi))]
theorem put_comm {e : Env} {d d' : Option Nat} {u v : V} (h : ∀ k, d = some k → d' ≠ some k) : (e.put d u).put d' v = (e.put d' v).put d u := by
  cases d with
  | none => rfl
  | some k =>
    cases d' with
    | none => rfl
    | some k' =>
      have := h k rfl
      funext i
      simp only [Env.put_some]
      by_cases h1 : i = k <;> by_cases h2 : i = k' <;> simp_all

theorem SS.swap {base : Nat} {o p : SOper} {e e1 e2 : Env} (h : SS P fm base o e H e1 H1) (k : SS P fm base p e1 H1 e2 H2) (hi : indep o p = true) :
    ∃ f Hb, SS P fm base p e H f Hb ∧ SS P fm base o f Hb e2 H2 := by
  obtain ⟨u, hu⟩ := h.chr
  obtain ⟨v, hv⟩ := k.chr
  unfold indep at hi
  simp only [Bool.and_eq_true] at hi
  obtain ⟨⟨⟨hap, hc⟩, h1⟩, h2⟩ := hi
  have ha1 : ∀ i ∈ p.uses, e1 i = e i := by
    rw [hu.env]
    refine put_agree ?_
    cases hd : o.dst with
    | none => rfl
    | some d => rw [hd] at h1; simp only [Bool.and_eq_true] at h1; exact h1.1
  have ha1' : ∀ i ∈ p.uses, e i = e1 i := fun i hi => (ha1 i hi).symm
  have ha2 : ∀ i ∈ o.uses, (e.put p.dst v) i = e i := put_agree h2
  have hcomm : (e.put p.dst v).put o.dst u = e2 := by
    rw [hv.env, hu.env]
    exact (put_comm (fun k hk hk' => by rw [hk] at h1; simp [hk'] at h1)).symm
  -- heaps that stay
  have fin0 : H1 = H → H2 = H1 → ∃ f Hb, SS P fm base p e H f Hb ∧ SS P fm base o f Hb e2 H2 := by
    intro e1' e2'
    subst e1'; subst e2'
    exact ⟨_, _, hv.same e ha1', by have := hu.same _ ha2; rw [hcomm] at this; exact this⟩
  have cp : ∀ a b : Nat, compat a b = true → a = 0 ∨ b = 0 ∨ (a = 1 ∧ b = 1) ∨ (a = 1 ∧ b = 2) ∨ (a = 2 ∧ b = 1) ∨ (a = 2 ∧ b = 2) ∨ (a = 1 ∧ b = 3) ∨ (a = 3 ∧ b = 1) ∨ (a = 3 ∧ b = 3) ∨ (a = 1 ∧ b = 5) ∨ (a = 5 ∧ b = 1) ∨ (a = 2 ∧ b = 5) ∨ (a = 5 ∧ b = 2) ∨ (a = 6 ∧ b = 6) ∨ (a = 6 ∧ b = 7) ∨ (a = 7 ∧ b = 6) ∨ (a = 1 ∧ b = 8) ∨ (a = 8 ∧ b = 1) ∨ (a = 1 ∧ b = 9) ∨ (a = 9 ∧ b = 1) ∨ (a = 2 ∧ b = 9) ∨ (a = 9 ∧ b = 2) ∨ (a = 9 ∧ b = 9) ∨ (a = 6 ∧ b = 10) ∨ (a = 10 ∧ b = 6) := by
    intro a b h
    unfold compat at h
    split at h <;> simp_all
  have cs_set : ∀ (s : Nat) (blk : Blk) (Hb : Heap), CellsAs base Hb (Hb.set (base + s) (some blk)) := fun s blk Hb id cs hid h => by rw [getElem?_set_ne (by omega)]; exact h
  have cs_set' : ∀ (s : Nat) (blk : Blk) (Hb : Heap), CellsAs base (Hb.set (base + s) (some blk)) Hb := fun s blk Hb id cs hid h => by rw [getElem?_set_ne (by omega)] at h; exact h
  have zs_set : ∀ (id k : Nat) (Hb : Heap), ZoneLike base Hb id → CellsAs base Hb (Hb.set id (some (.zone k))) := by
    intro id k Hb hz j cs hj h
    by_cases hji : j = id
    · subst hji
      rcases hz with ⟨h1, _⟩ | ⟨k', h1⟩
      · omega
      · rw [h1] at h; cases h
    · rw [getElem?_set_ne hji]; exact h
  have zs_set' : ∀ (id k : Nat) (Hb : Heap), ZoneLike base Hb id → CellsAs base (Hb.set id (some (.zone k))) Hb := by
    intro id k Hb hz j cs hj h
    by_cases hji : j = id
    · subst hji
      have hlt : j < Hb.length := by
        rcases hz with ⟨_, h1⟩ | ⟨k', h1⟩
        · exact free_lt h1
        · exact (List.getElem?_eq_some_iff.1 h1).1
      rw [List.getElem?_set_self hlt] at h; cases h
    · rw [getElem?_set_ne hji] at h; exact h
  have slots : ∀ s s', o.op.slot = some s → p.op.slot = some s' → o.op.cls = 9 ∨ p.op.cls = 9 → base + s' ≠ base + s := by
    intro s s' h1 h2 h3 he
    have hss : s' = s := by omega
    subst hss
    unfold apart at hap
    simp only [h1, h2, Bool.and_eq_true] at hap
    rcases h3 with h3 | h3 <;> simp [h3] at hap
  rcases cp _ _ hc with h0 | h0 | ⟨ha, hb⟩ | ⟨ha, hb⟩ | ⟨ha, hb⟩ | ⟨ha, hb⟩ | ⟨ha, hb⟩ | ⟨ha, hb⟩ | ⟨ha, hb⟩ | ⟨ha, hb⟩ | ⟨ha, hb⟩ | ⟨ha, hb⟩ | ⟨ha, hb⟩ | ⟨ha, hb⟩ | ⟨ha, hb⟩ | ⟨ha, hb⟩ | ⟨ha, hb⟩ | ⟨ha, hb⟩ | ⟨ha, hb⟩ | ⟨ha, hb⟩ | ⟨ha, hb⟩ | ⟨ha, hb⟩ | ⟨ha, hb⟩ | ⟨ha, hb⟩ | ⟨ha, hb⟩
  · obtain ⟨hh, hall⟩ := hu.c0 h0
    subst hh
    exact ⟨_, _, hv.same e ha1', by have := hall _ H2 ha2; rw [hcomm] at this; exact this⟩
  · obtain ⟨hh, hall⟩ := hv.c0 h0
    subst hh
    exact ⟨_, _, hall e H ha1', by have := hu.same _ ha2; rw [hcomm] at this; exact this⟩
  · exact fin0 (hu.c1 ha).1 (hv.c1 hb).1
  · obtain ⟨hh, hall⟩ := hu.c1 ha
    subst hh
    rcases hv.c2 hb with ⟨hh2, _⟩ | ⟨s, blk, hsl, ⟨bcs, hbc⟩, hfree, hh2, hallA⟩
    · exact fin0 rfl hh2
    · subst hh2
      exact ⟨_, _, hv.same e ha1', by have := hall _ (H1.set (base + s) (some blk)) ha2 (cs_set s blk H1); rw [hcomm] at this; exact this⟩
  · obtain ⟨hh, hall⟩ := hv.c1 hb
    subst hh
    rcases hu.c2 ha with ⟨hh2, _⟩ | ⟨s, blk, hsl, ⟨bcs, hbc⟩, hfree, hh2, hallA⟩
    · exact fin0 hh2 rfl
    · subst hh2
      exact ⟨_, _, hall e H ha1' (cs_set' s blk H), by have := hu.same _ ha2; rw [hcomm] at this; exact this⟩
  · rcases hu.c2 ha with ⟨hh, hallU⟩ | ⟨s, blk, hsl, ⟨bcs, hbc⟩, hfree, hh, hallA⟩
    · subst hh
      exact ⟨_, _, hv.same e ha1', by have := hallU _ H2 ha2; rw [hcomm] at this; exact this⟩
    · rcases hv.c2 hb with ⟨hh2, hallV⟩ | ⟨s', blk', hsl', ⟨bcs', hbc'⟩, hfree', hh2, hallA'⟩
      · subst hh2
        exact ⟨_, _, hallV e H ha1', by have := hu.same _ ha2; rw [hcomm] at this; exact this⟩
      · subst hh
        subst hh2
        have hne : base + s' ≠ base + s := by
          intro he
          rw [he] at hfree'
          have := isFree_iff.1 hfree'
          rw [List.getElem?_set_self (free_lt hfree)] at this
          cases this
        have hf1 : isFree H (base + s') = true := by
          rw [isFree_iff] at hfree' ⊢
          rwa [getElem?_set_ne hne] at hfree'
        have hf2 : isFree (H.set (base + s') (some blk')) (base + s) = true := by
          rw [isFree_iff] at hfree ⊢
          rwa [getElem?_set_ne (fun h => hne h.symm)]
        have := hallA _ (H.set (base + s') (some blk')) ha2 hf2
        rw [hcomm, List.set_comm _ _ hne] at this
        exact ⟨_, _, hallA' e H ha1' hf1, this⟩
  · exact fin0 (hu.c1 ha).1 (hv.c3 hb)
  · exact fin0 (hu.c3 ha) (hv.c1 hb).1
  · exact fin0 (hu.c3 ha) (hv.c3 hb)
  · -- a load, an append
    obtain ⟨hh, hall⟩ := hu.c1 ha
    subst hh
    rcases hv.c5 hb with ⟨hh2, _⟩ | ⟨id, kz, hz, hh2, hallK⟩
    · exact fin0 rfl hh2
    · subst hh2
      exact ⟨_, _, hv.same e ha1', by have := hall _ (H1.set id (some (.zone kz))) ha2 (zs_set id kz H1 hz); rw [hcomm] at this; exact this⟩
  · obtain ⟨hh, hall⟩ := hv.c1 hb
    subst hh
    rcases hu.c5 ha with ⟨hh2, _⟩ | ⟨id, kz, hz, hh2, hallK⟩
    · exact fin0 hh2 rfl
    · subst hh2
      exact ⟨_, _, hall e H ha1' (zs_set' id kz H hz), by have := hu.same _ ha2; rw [hcomm] at this; exact this⟩
  · -- a new block, an append
    rcases hu.c2 ha with ⟨hh, hallU⟩ | ⟨s, blk, hsl, ⟨bcs, hbc⟩, hfree, hh, hallA⟩
    · subst hh
      exact ⟨_, _, hv.same e ha1', by have := hallU _ H2 ha2; rw [hcomm] at this; exact this⟩
    · rcases hv.c5 hb with ⟨hh2, hallV⟩ | ⟨id, kz, hz, hh2, hallK⟩
      · subst hh2
        exact ⟨_, _, hallV e H ha1', by have := hu.same _ ha2; rw [hcomm] at this; exact this⟩
      · subst hh
        subst hh2
        by_cases hne : id = base + s
        · -- the block can be a zone no more than it is free: only where the block made was a zone
          subst hne
          exfalso
          rcases hz with ⟨_, h1⟩ | ⟨k', h1⟩
          · rw [isFree_iff, List.getElem?_set_self (free_lt hfree)] at h1; cases h1
          · rw [List.getElem?_set_self (free_lt hfree)] at h1
            rw [hbc] at h1; cases h1
        · have hid : H[id]? = (H.set (base + s) (some blk))[id]? := (getElem?_set_ne hne).symm
          have hf2 : isFree (H.set id (some (.zone kz))) (base + s) = true := by
            rw [isFree_iff] at hfree ⊢
            rwa [getElem?_set_ne (fun h => hne h.symm)]
          have := hallA _ (H.set id (some (.zone kz))) ha2 hf2
          rw [hcomm, List.set_comm _ _ hne] at this
          exact ⟨_, _, hallK e H ha1' hid, this⟩
  · rcases hv.c2 hb with ⟨hh, hallU⟩ | ⟨s, blk, hsl, ⟨bcs, hbc⟩, hfree, hh, hallA⟩
    · subst hh
      exact ⟨_, _, hallU e H ha1', by have := hu.same _ ha2; rw [hcomm] at this; exact this⟩
    · rcases hu.c5 ha with ⟨hh2, hallV⟩ | ⟨id, kz, hz, hh2, hallK⟩
      · subst hh2
        exact ⟨_, _, hv.same e ha1', by have := hallV _ H2 ha2; rw [hcomm] at this; exact this⟩
      · subst hh2
        subst hh
        have hlt : id < H.length := by
          rcases hz with ⟨_, h1⟩ | ⟨k', h1⟩
          · exact free_lt h1
          · exact (List.getElem?_eq_some_iff.1 h1).1
        have hne : base + s ≠ id := by
          intro h
          rw [h, isFree_iff, List.getElem?_set_self hlt] at hfree
          cases hfree
        have hf1 : isFree H (base + s) = true := by
          rw [isFree_iff] at hfree ⊢
          rwa [getElem?_set_ne hne] at hfree
        have := hallK _ (H.set (base + s) (some blk)) ha2 (getElem?_set_ne (fun h => hne h.symm))
        rw [hcomm, List.set_comm _ _ hne] at this
        exact ⟨_, _, hallA e H ha1' hf1, this⟩
  · exact fin0 (hu.c6 ha).1 (hv.c6 hb).1
  · -- a load of one block, a store elsewhere
    obtain ⟨hh, hall⟩ := hu.c6 ha
    subst hh
    have hroot : ∀ r, o.op.root = some r → r ∈ p.op.avoid ∧ r ∈ p.uses := by
      intro r hr
      simp only [apart, hr, hb, Bool.and_eq_true] at hap
      have h3 : r ∈ p.op.avoid := by simpa using hap.1.1
      refine ⟨h3, ?_⟩
      unfold SOp.avoid at h3
      split at h3
      · rename_i hpo; simp only [SOper.uses, hpo, SOp.uses, List.mem_append]; exact .inl (.inl (.inl h3))
      · rename_i hpo; simp only [SOper.uses, hpo, SOp.uses, List.mem_append]; exact .inl (.inl h3)
      · cases h3
    rcases hv.c7 hb with ⟨hh2, _⟩ | ⟨id, blk, hh2, hav⟩
    · exact fin0 rfl hh2
    · have := hall _ H2 ha2 fun r idr hr hid => by
        obtain ⟨h3, h4⟩ := hroot r hr
        have h5 := hav r h3
        rw [ha1 r h4] at h5
        rw [hh2, getElem?_set_ne (fun he => h5 (by rw [hid, he]))]
      exact ⟨_, _, hv.same e ha1', by rw [hcomm] at this; exact this⟩
  · obtain ⟨hh, hall⟩ := hv.c6 hb
    subst hh
    have hroot : ∀ r, p.op.root = some r → r ∈ o.op.avoid ∧ r ∈ p.uses := by
      intro r hr
      simp only [apart, hr, ha, Bool.and_eq_true] at hap
      have h3 : r ∈ o.op.avoid := by simpa using hap.1.2
      refine ⟨h3, ?_⟩
      unfold SOp.root at hr
      split at hr
      · rename_i hpo; cases hr; simp [SOper.uses, hpo, SOp.uses]
      · cases hr
    rcases hu.c7 ha with ⟨hh2, _⟩ | ⟨id, blk, hh2, hav⟩
    · exact fin0 hh2 rfl
    · refine ⟨_, _, hall e H ha1' fun r idr hr hid => ?_, by have := hu.same _ ha2; rw [hcomm] at this; exact this⟩
      obtain ⟨h3, h4⟩ := hroot r hr
      have h5 := hav r h3
      rw [ha1 r h4] at hid
      rw [hh2, getElem?_set_ne (fun he => h5 (by rw [hid, he]))]
  · -- a load, a call that makes blocks
    obtain ⟨hh, hall⟩ := hu.c1 ha
    subst hh
    exact ⟨_, _, hv.same e ha1', by have := hall _ H2 ha2 (hv.c8 hb).1; rw [hcomm] at this; exact this⟩
  · obtain ⟨hh, hall⟩ := hv.c1 hb
    subst hh
    exact ⟨_, _, hall e H ha1' (hu.c8 ha).2, by have := hu.same _ ha2; rw [hcomm] at this; exact this⟩
  · -- a load, a store into the region's own block
    obtain ⟨hh, hall⟩ := hu.c1 ha
    subst hh
    rcases hv.c9 hb with ⟨hh2, _⟩ | ⟨s, cs, blk, hsl, hcs, hh2, hallA⟩
    · exact fin0 rfl hh2
    · subst hh2
      exact ⟨_, _, hv.same e ha1', by have := hall _ (H1.set (base + s) (some blk)) ha2 (cs_set s blk H1); rw [hcomm] at this; exact this⟩
  · obtain ⟨hh, hall⟩ := hv.c1 hb
    subst hh
    rcases hu.c9 ha with ⟨hh2, _⟩ | ⟨s, cs, blk, hsl, hcs, hh2, hallA⟩
    · exact fin0 hh2 rfl
    · subst hh2
      exact ⟨_, _, hall e H ha1' (cs_set' s blk H), by have := hu.same _ ha2; rw [hcomm] at this; exact this⟩
  · rcases hu.c2 ha with ⟨hh, hallU⟩ | ⟨s, blk, hsl, ⟨bcs, hbc⟩, hfree, hh, hallA⟩
    · subst hh
      exact ⟨_, _, hv.same e ha1', by have := hallU _ H2 ha2; rw [hcomm] at this; exact this⟩
    · rcases hv.c9 hb with ⟨hh2, hallV⟩ | ⟨s', cs', blk', hsl', hcs', hh2, hallA'⟩
      · subst hh2
        exact ⟨_, _, hallV e H ha1', by have := hu.same _ ha2; rw [hcomm] at this; exact this⟩
      · subst hh
        subst hh2
        have hne := slots s s' hsl hsl' (.inr hb)
        have hf2 : isFree (H.set (base + s') (some blk')) (base + s) = true := by
          rw [isFree_iff] at hfree ⊢
          rwa [getElem?_set_ne (fun h => hne h.symm)]
        have := hallA _ (H.set (base + s') (some blk')) ha2 hf2
        rw [hcomm, List.set_comm _ _ hne] at this
        exact ⟨_, _, hallA' e H ha1' (getElem?_set_ne hne).symm, this⟩
  · rcases hv.c2 hb with ⟨hh, hallU⟩ | ⟨s', blk', hsl', ⟨bcs, hbc⟩, hfree', hh, hallA'⟩
    · subst hh
      exact ⟨_, _, hallU e H ha1', by have := hu.same _ ha2; rw [hcomm] at this; exact this⟩
    · rcases hu.c9 ha with ⟨hh2, hallV⟩ | ⟨s, cs, blk, hsl, hcs, hh2, hallA⟩
      · subst hh2
        exact ⟨_, _, hv.same e ha1', by have := hallV _ H2 ha2; rw [hcomm] at this; exact this⟩
      · subst hh2
        subst hh
        have hne := slots s s' hsl hsl' (.inl ha)
        have hf1 : isFree H (base + s') = true := by
          rw [isFree_iff] at hfree' ⊢
          rwa [getElem?_set_ne hne] at hfree'
        have := hallA _ (H.set (base + s') (some blk')) ha2 (getElem?_set_ne (fun h => hne h.symm))
        rw [hcomm, List.set_comm _ _ hne] at this
        exact ⟨_, _, hallA' e H ha1' hf1, this⟩
  · rcases hu.c9 ha with ⟨hh, hallU⟩ | ⟨s, cs, blk, hsl, hcs, hh, hallA⟩
    · subst hh
      exact ⟨_, _, hv.same e ha1', by have := hallU _ H2 ha2; rw [hcomm] at this; exact this⟩
    · rcases hv.c9 hb with ⟨hh2, hallV⟩ | ⟨s', cs', blk', hsl', hcs', hh2, hallA'⟩
      · subst hh2
        exact ⟨_, _, hallV e H ha1', by have := hu.same _ ha2; rw [hcomm] at this; exact this⟩
      · subst hh
        subst hh2
        have hne := slots s s' hsl hsl' (.inl ha)
        have := hallA _ (H.set (base + s') (some blk')) ha2 (getElem?_set_ne (fun h => hne h.symm))
        rw [hcomm, List.set_comm _ _ hne] at this
        exact ⟨_, _, hallA' e H ha1' (getElem?_set_ne hne).symm, this⟩
  · -- a load of one block, a call that leaves it
    obtain ⟨hh, hall⟩ := hu.c6 ha
    subst hh
    have hroot : ∀ r, o.op.root = some r → r ∈ p.op.avoid ∧ r ∈ p.uses := by
      intro r hr
      simp only [apart, hr, hb, Bool.and_eq_true] at hap
      have h3 : r ∈ p.op.avoid := by simpa using hap.1.1
      refine ⟨h3, ?_⟩
      unfold SOp.avoid at h3
      split at h3
      · rename_i hpo; simp only [SOper.uses, hpo, SOp.uses, List.mem_append]; exact .inl (.inl (.inl h3))
      · rename_i hpo; simp only [SOper.uses, hpo, SOp.uses, List.mem_append]; exact .inl (.inl h3)
      · cases h3
    have := hall _ H2 ha2 fun r idr hr hid => by
      obtain ⟨h3, h4⟩ := hroot r hr
      exact hv.c10 hb r h3 idr (by rw [ha1 r h4]; exact hid)
    exact ⟨_, _, hv.same e ha1', by rw [hcomm] at this; exact this⟩
  · obtain ⟨hh, hall⟩ := hv.c6 hb
    subst hh
    have hroot : ∀ r, p.op.root = some r → r ∈ o.op.avoid ∧ r ∈ p.uses := by
      intro r hr
      simp only [apart, hr, ha, Bool.and_eq_true] at hap
      have h3 : r ∈ o.op.avoid := by simpa using hap.1.2
      refine ⟨h3, ?_⟩
      unfold SOp.root at hr
      split at hr
      · rename_i hpo; cases hr; simp [SOper.uses, hpo, SOp.uses]
      · cases hr
    refine ⟨_, _, hall e H ha1' fun r idr hr hid => ?_, by have := hu.same _ ha2; rw [hcomm] at this; exact this⟩
    obtain ⟨h3, h4⟩ := hroot r hr
    exact (hu.c10 ha r h3 idr (by rw [← ha1 r h4]; exact hid)).symm

end Go.Ev
