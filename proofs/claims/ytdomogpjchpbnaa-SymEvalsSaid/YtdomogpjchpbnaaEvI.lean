/- One operation, as checked; calls by contracts. -/
import Derived.Test.YtdomogpjchpbnaaEvJm
namespace Go.Ev
open Go Go.RowKit

variable {P : Program} {M M' : Mm} {H H1 : Heap} {w w' : World}

def chkZero (P : Program) (t : TypeId) (z : List V) : Bool :=
  match P.info? t with
  | some i => match i.zero with
    | some zv => encSs zv.cells.toList z
    | none => false
  | none => false
theorem chkZero_spec {t : TypeId} {z : List V} (h : chkZero P t z = true) : ∃ i zv, P.info? t = some i ∧ i.zero = some zv ∧ encSs zv.cells.toList z = true := by
  unfold chkZero at h
  split at h
  · rename_i i hi
    split at h
    · rename_i zv hz; exact ⟨i, zv, hi, hz, h⟩
    · cases h
  · cases h
def sizeIs (P : Program) (t : TypeId) (sz : Nat) : Bool := match P.info? t with | some i => i.size == sz | none => false
theorem sizeIs_spec {t : TypeId} {sz : Nat} (h : sizeIs P t sz = true) : ∃ i, P.info? t = some i ∧ i.size = sz := by
  unfold sizeIs at h
  split at h
  · rename_i i hi; exact ⟨i, hi, by simpa using h⟩
  · cases h
/-- The checker of an operation that is no call of a function. -/
def chk1 (P : Program) (fm : Fm) (o : Op) (s : SOp) : Bool :=
  match s with
  | .mv sx => match o with
    | .move x => chkX fm x sx
    | .assign x => chkX fm x sx
    | _ => false
  | .pick sc sa sb => match o with
    | .pick c a b => chkX fm c sc && chkX fm a sa && chkX fm b sb
    | _ => false
  | .box _ sx => match o with
    | .box _ x => chkX fm x sx
    | _ => false
  | .alloc _ z => match o with
    | .alloc t => chkZero P t z
    | _ => false
  | .build z qs => match o with
    | .build t ps => chkZero P t z && typed P t && chkParts fm (placesOf P t) ps.toList qs
    | _ => false
  | .bslice k z qs => match o with
    | .buildSlice t k' ps => match elemOf? P t with
      | some el => k == k' && chkZero P el z && sizeIs P el z.length && decide (0 < z.length) && decide (k * z.length ≤ 16777216) &&
          chkParts fm (fun j => some (j * z.length, z.length)) ps.toList (qs.map fun q => (q.1 * z.length, z.length, q.2))
      | none => false
    | _ => false
  | .load sz ag _ sx => match o with
    | .load t x => chkX fm x sx && tyOk P t sz ag
    | _ => false
  | .store sz sx sy => match o with
    | .store t x y => chkX fm x sx && chkX fm y sy && sizeIs P t sz
    | _ => false
  | .faddr off sx => match o with
    | .fieldAddr t x f => match chkField P t f off with
      | some ft => chkX fm x sx && (match P.info? ft with | some i => i.size != 0 | none => false)
      | none => false
    | _ => false
  | .fld off sz ag sx => match o with
    | .field t x f => match chkField P t f off with
      | some ft => chkX fm x sx && tyOk P ft sz ag
      | none => false
    | _ => false
  | .iaddr sz sx sy => match o with
    | .indexAddr t x y => match elemOf? P t with
      | some el => chkX fm x sx && chkX fm y sy && sizeIs P el sz
      | none => false
    | _ => false
  | .iaddrA len sz sx sy => match o with
    | .indexAddr t x y => match arrOf? P t with
      | some (k, el) => k == len && chkX fm x sx && chkX fm y sy && sizeIs P el sz
      | none => false
    | _ => false
  | .idx len sz ag sx sy => match o with
    | .index t x y => match arrOf? P t with
      | some (k, el) => k == len && chkX fm x sx && chkX fm y sy && tyOk P el sz ag
      | none => false
    | _ => false
  | .bin op sx sy => match o with
    | .binOp op' _ x y _ => op == op' && chkX fm x sx && chkX fm y sy
    | _ => false
  | .beq neg sx sy => match o with
    | .binOp op' xt x y _ => op' == (if neg then .neq else .eql) && isBool P xt && chkX fm x sx && chkX fm y sy
    | _ => false
  | .un op sx => match o with
    | .unOp op' _ x => op == op' && chkX fm x sx
    | _ => false
  | .conv k sx => match o with
    | .convert st dt x => (P.underlying st).isSome && isInt P dt k && chkX fm x sx
    | _ => false
  | .mkfn f cap => match o with
    | .makeFunc (.func f') first cap' => f' == fm f && first.isEmpty && chkXs fm cap'.toList cap
    | _ => false
  | .ext i sx => match o with
    | .extract x i' => i == i' && chkX fm x sx
    | _ => false
  | .len st sx => match o with
    | .call { callee := .builtin .len, args, argTypes } => match args.toList, argTypes.toList with
      | [x], [t] => chkX fm x sx && (if st then isStr P t else (elemOf? P t).isSome)
      | _, _ => false
    | _ => false
  | .app _ sz bytes sx sy => match o with
    | .call { callee := .builtin .append, args, argTypes } => match args.toList, argTypes.toList with
      | [x, y], [t, t'] => chkX fm x sx && chkX fm y sy && appOk P t t' sz bytes
      | _, _ => false
    | _ => false
  | .slc sz sx slo shi smx => match o with
    | .slice t x lo hi mx => match elemOf? P t with
      | some el => chkX fm x sx && sizeIs P el sz && chkXo fm lo slo && chkXo fm hi shi && chkXo fm mx smx
      | none => false
    | _ => false
  | .nilck sx => match o with
    | .nilCheck x => chkX fm x sx
    | _ => false
  | .mksl _ bytes z sx => match o with
    | .makeSlice t l c => match elemOf? P t with
      | some el => chkX fm l sx && chkX fm c sx && chkZero P el z && sizeIs P el z.length && decide (0 < z.length) && (match P.info? el with | some i => i.bytes == bytes && decide (0 < bytes) | none => false)
      | none => false
    | _ => false
  | .aeq ks neg sx sy => match o with
    | .binOp op' xt x y _ => op' == (if neg then .neq else .eql) && kdsOf P 20 xt == some ks && !P.eqGuardType P.depth xt && tyAg P xt && chkX fm x sx && chkX fm y sy
    | _ => false
  | .nileq k neg sx => match o with
    | .binOp op' xt x y _ => op' == (if neg then .neq else .eql) && nilTy P k xt y && chkX fm x sx
    | _ => false
  | .mm mx xs => match o with
    | .call { callee := .builtin b, args, argTypes := _ } => (match b, mx with | .max, true => true | .min, false => true | _, _ => false) && chkXs fm args.toList xs
    | _ => false
  | .sidx sx sy => match o with
    | .index t x y => isStr P t && chkX fm x sx && chkX fm y sy
    | _ => false
  | .sslc sx slo shi => match o with
    | .slice t x lo hi none => isStr P t && chkX fm x sx && chkXo fm lo slo && chkXo fm hi shi
    | _ => false
  | .mkmap _ => match o with
    | .makeMap _ none => true
    | _ => false
  | .mget ky ok z sx sy => match o with
    | .lookup t x y ok' => match mapOf? P t with
      | some (kt, el) => ok == ok' && kyOk P kt ky && zeroS P el z && chkX fm x sx && chkX fm y sy
      | none => false
    | _ => false
  | .mput ky sx sy sz => match o with
    | .insert t x y z => match mapOf? P t with
      | some (kt, _) => kyOk P kt ky && chkX fm x sx && chkX fm y sy && chkX fm z sz
      | none => false
    | .mapUpdate t x y z => match mapOf? P t with
      | some (kt, _) => kyOk P kt ky && chkX fm x sx && chkX fm y sy && chkX fm z sz
      | none => false
    | _ => false
  | .rng _ sx => match o with
    | .range t x => isStr P t && chkX fm x sx
    | _ => false
  | .nxt sx => match o with
    | .next x true => chkX fm x sx
    | _ => false
  | .loadR sz ag _ sx => match o with
    | .load t x => chkX fm x sx && tyOk P t sz ag
    | _ => false
  | .storeA sz _ sx sy => match o with
    | .store t x y => chkX fm x sx && chkX fm y sy && sizeIs P t sz
    | _ => false
  | .loadC sz ag sx => match o with
    | .load t x => chkX fm x sx && tyOk P t sz ag
    | _ => false
  | .storeN _ sz sx sy => match o with
    | .store t x y => chkX fm x sx && chkX fm y sy && sizeIs P t sz
    | _ => false
  | .bsliceR _ k z qs => match o with
    | .buildSlice t k' ps => match elemOf? P t with
      | some el => k == k' && chkZero P el z && sizeIs P el z.length && decide (0 < z.length) && decide (k * z.length ≤ 16777216) &&
          chkParts fm (fun j => some (j * z.length, z.length)) ps.toList (qs.map fun q => (q.1 * z.length, z.length, q.2))
      | none => false
    | _ => false
  | .slcA len sz sx slo shi => match o with
    | .slice t x lo hi none => match arrOf? P t with
      | some (k, el) => k == len && chkX fm x sx && sizeIs P el sz && chkXo fm lo slo && chkXo fm hi shi
      | none => false
    | _ => false
  | .cpy sz sx sy => match o with
    | .call { callee := .builtin .copy, args, argTypes } => match args.toList, argTypes.toList with
      | [x, y], [t, _] => match elemOf? P t with
        | some el => chkX fm x sx && chkX fm y sy && sizeIs P el sz
        | none => false
      | _, _ => false
    | _ => false
  | .b2s _ | .i2s _ | .s2b _ _ | .ment _ _ _ _ | .mst _ _ _ => false
  | .pcall _ _ | .scall _ _ | .kcall _ _ _ | .vcall _ _ _ | .scallA _ _ _ => false

theorem arr1 {α : Type} {xs : Array α} {x : α} (h : xs.toList = [x]) : xs = #[x] := by apply Array.ext'; simpa using h
theorem arr2 {α : Type} {xs : Array α} {x y : α} (h : xs.toList = [x, y]) : xs = #[x, y] := by apply Array.ext'; simpa using h

theorem ev1_sound {e : Env} {a : Act} {n base : Nat} {o : Oper} {v : V} {s : SOp} (hc : chk1 P M.fm o.op s = true) (ht : RelT M w e a n) (hr : HRel M w H) (hv : ev1 base e H s = some (v, H1)) :
    OpOk P o a M H w v H1 := by
  cases s with
  | mv sx =>
    simp only [chk1] at hc
    simp only [ev1, Option.some.injEq, Prod.mk.injEq] at hv
    obtain ⟨rfl, rfl⟩ := hv
    split at hc
    · rename_i x ho; exact mv_ok (.inl ho) hc ht hr
    · rename_i x ho; exact mv_ok (.inr ho) hc ht hr
    · cases hc
  | pick sc sa sb =>
    simp only [chk1] at hc
    simp only [ev1] at hv
    split at hc
    case h_2 => cases hc
    rename_i c x y ho
    simp only [Bool.and_eq_true] at hc
    split at hv
    case h_2 => cases hv
    rename_i b hb
    cases hv
    exact pick_ok ho hc.1.1 hc.1.2 hc.2 ht hr hb
  | box sl sx =>
    simp only [chk1] at hc
    simp only [ev1] at hv
    split at hc
    case h_2 => cases hc
    rename_i t x ho
    split at hv
    case h_2 => cases hv
    rename_i cs hcs
    split at hv
    case isFalse => cases hv
    rename_i hf
    cases hv
    exact box_ok ho hc ht hr hcs hf
  | alloc sl z =>
    simp only [chk1] at hc
    simp only [ev1] at hv
    split at hc
    case h_2 => cases hc
    rename_i t ho
    split at hv
    case isFalse => cases hv
    rename_i hf
    cases hv
    obtain ⟨i, zv, h1, h2, h3⟩ := chkZero_spec hc
    exact alloc_ok ho h1 h2 h3 hr hf
  | build z qs =>
    simp only [chk1] at hc
    split at hc
    case h_2 => cases hc
    rename_i t ps ho
    simp only [Bool.and_eq_true] at hc
    obtain ⟨i, zv, h1, h2, h3⟩ := chkZero_spec hc.1.1
    exact build_ok ho h1 h2 h3 hc.1.2 hc.2 ht hr hv
  | bslice k z qs =>
    simp only [chk1] at hc
    split at hc
    case h_2 => cases hc
    rename_i t k' ps ho
    split at hc
    case h_2 => cases hc
    rename_i el hel
    simp only [Bool.and_eq_true, beq_iff_eq, decide_eq_true_eq] at hc
    obtain ⟨⟨⟨⟨⟨rfl, hz⟩, hsz⟩, h0⟩, hk⟩, hp⟩ := hc
    obtain ⟨i, zv, h1, h2, h3⟩ := chkZero_spec hz
    obtain ⟨i', h1', h2'⟩ := sizeIs_spec hsz
    rw [h1] at h1'; cases h1'
    exact bslice_ok ho hel h1 h2' h0 hk h2 h3 hp ht hr hv
  | load sz ag old sx =>
    simp only [chk1] at hc
    split at hc
    case h_2 => cases hc
    rename_i t x ho
    simp only [Bool.and_eq_true] at hc
    exact load_ok ho hc.1 hc.2 ht hr hv
  | store sz sx sy =>
    simp only [chk1] at hc
    split at hc
    case h_2 => cases hc
    rename_i t x y ho
    simp only [Bool.and_eq_true] at hc
    obtain ⟨i, h1, h2⟩ := sizeIs_spec hc.2
    exact store_ok ho hc.1.1 hc.1.2 (by rw [h1]; simp [h2]) ht hr hv
  | faddr off sx =>
    simp only [chk1] at hc
    split at hc
    case h_2 => cases hc
    rename_i t x f ho
    split at hc
    case h_2 => cases hc
    rename_i ft hft
    simp only [Bool.and_eq_true] at hc
    obtain ⟨h1, h2⟩ := hc
    split at h2
    · rename_i i hi
      exact faddr_ok ho h1 hft hi (by simpa using h2) ht hr hv
    · cases h2
  | fld off sz ag sx =>
    simp only [chk1] at hc
    split at hc
    case h_2 => cases hc
    rename_i t x f ho
    split at hc
    case h_2 => cases hc
    rename_i ft hft
    simp only [Bool.and_eq_true] at hc
    exact fld_ok ho hc.1 hft hc.2 ht hr hv
  | iaddr sz sx sy =>
    simp only [chk1] at hc
    split at hc
    case h_2 => cases hc
    rename_i t x y ho
    split at hc
    case h_2 => cases hc
    rename_i el hel
    simp only [Bool.and_eq_true] at hc
    obtain ⟨i, h1, h2⟩ := sizeIs_spec hc.2
    exact iaddr_ok ho hc.1.1 hc.1.2 hel h1 h2 ht hr hv
  | iaddrA len sz sx sy =>
    simp only [chk1] at hc
    split at hc
    case h_2 => cases hc
    rename_i t x y ho
    split at hc
    case h_2 => cases hc
    rename_i k el hel
    simp only [Bool.and_eq_true, beq_iff_eq] at hc
    obtain ⟨⟨⟨rfl, h3⟩, h4⟩, h5⟩ := hc
    obtain ⟨i, h1, h2⟩ := sizeIs_spec h5
    exact iaddrA_ok ho h3 h4 hel h1 h2 ht hr hv
  | idx len sz ag sx sy =>
    simp only [chk1] at hc
    split at hc
    case h_2 => cases hc
    rename_i t x y ho
    split at hc
    case h_2 => cases hc
    rename_i k el hel
    simp only [Bool.and_eq_true, beq_iff_eq] at hc
    obtain ⟨⟨⟨rfl, h3⟩, h4⟩, h5⟩ := hc
    exact idx_ok ho h3 h4 hel h5 ht hr hv
  | bin op sx sy =>
    simp only [chk1] at hc
    split at hc
    case h_2 => cases hc
    rename_i op' xt x y yt ho
    simp only [Bool.and_eq_true, beq_iff_eq] at hc
    obtain ⟨⟨rfl, h3⟩, h4⟩ := hc
    exact bin_ok ho h3 h4 ht hr hv
  | beq neg sx sy =>
    simp only [chk1] at hc
    split at hc
    case h_2 => cases hc
    rename_i op' xt x y yt ho
    simp only [Bool.and_eq_true, beq_iff_eq] at hc
    obtain ⟨⟨⟨rfl, h2⟩, h3⟩, h4⟩ := hc
    exact beq_ok ho h3 h4 (isBool_spec h2) ht hr hv
  | un op sx =>
    simp only [chk1] at hc
    split at hc
    case h_2 => cases hc
    rename_i op' xt x ho
    simp only [Bool.and_eq_true, beq_iff_eq] at hc
    obtain ⟨rfl, h3⟩ := hc
    exact un_ok ho h3 ht hr hv
  | conv k sx =>
    simp only [chk1] at hc
    split at hc
    case h_2 => cases hc
    rename_i st dt x ho
    simp only [Bool.and_eq_true] at hc
    obtain ⟨sd, hsd⟩ := Option.isSome_iff_exists.1 hc.1.1
    exact conv_ok ho hc.2 hsd (isInt_spec hc.1.2) ht hr hv
  | mkfn f cap =>
    simp only [chk1] at hc
    simp only [ev1, Option.some.injEq, Prod.mk.injEq] at hv
    obtain ⟨rfl, rfl⟩ := hv
    split at hc
    case h_2 => cases hc
    rename_i f' first cap' ho
    simp only [Bool.and_eq_true, beq_iff_eq, Array.isEmpty_iff] at hc
    obtain ⟨⟨h1, rfl⟩, h3⟩ := hc
    exact mkfn_ok ho h1 h3 ht hr
  | ext i sx =>
    simp only [chk1] at hc
    split at hc
    case h_2 => cases hc
    rename_i x i' ho
    simp only [Bool.and_eq_true, beq_iff_eq] at hc
    obtain ⟨rfl, h3⟩ := hc
    exact ext_ok ho h3 ht hr hv
  | len st sx =>
    simp only [chk1] at hc
    split at hc
    case h_2 => cases hc
    rename_i args argTypes ho
    split at hc
    case h_2 => cases hc
    rename_i x t h1 h2
    rw [arr1 h1, arr1 h2] at ho
    simp only [Bool.and_eq_true] at hc
    refine len_ok ho hc.1 ?_ ht hr hv
    cases st with
    | true => simpa using isStr_spec (by simpa using hc.2)
    | false => simp only [Bool.false_eq_true, if_false] at hc ⊢; exact Option.isSome_iff_exists.1 hc.2
  | app sl sz bytes sx sy =>
    simp only [chk1] at hc
    split at hc
    case h_2 => cases hc
    rename_i args argTypes ho
    split at hc
    case h_2 => cases hc
    rename_i x y t t' h1 h2
    rw [arr2 h1, arr2 h2] at ho
    simp only [Bool.and_eq_true] at hc
    exact app_ok ho hc.1.1 hc.1.2 hc.2 ht hr hv
  | slc sz sx slo shi smx =>
    simp only [chk1] at hc
    split at hc
    case h_2 => cases hc
    rename_i t x lo hi mx ho
    split at hc
    case h_2 => cases hc
    rename_i el hel
    simp only [Bool.and_eq_true] at hc
    obtain ⟨⟨⟨⟨h1, h2⟩, h3⟩, h4⟩, h5⟩ := hc
    obtain ⟨i, h6, h7⟩ := sizeIs_spec h2
    exact slc_ok ho h1 hel h6 h7 h3 h4 h5 ht hr hv
  | nilck sx =>
    simp only [chk1] at hc
    split at hc
    case h_2 => cases hc
    rename_i x ho
    exact nilck_ok ho hc ht hr hv
  | mksl s bytes z sx =>
    simp only [chk1] at hc
    split at hc
    case h_2 => cases hc
    rename_i t l c ho
    split at hc
    case h_2 => cases hc
    rename_i el hel
    simp only [Bool.and_eq_true, decide_eq_true_eq] at hc
    obtain ⟨⟨⟨⟨⟨h1, h2⟩, h3⟩, h4⟩, h5⟩, h6⟩ := hc
    obtain ⟨i, zv, h7, h8, h9⟩ := chkZero_spec h3
    obtain ⟨i', h1', h2'⟩ := sizeIs_spec h4
    rw [h7] at h1'; cases h1'
    rw [h7] at h6
    simp only [Bool.and_eq_true, beq_iff_eq, decide_eq_true_eq] at h6
    exact mksl_ok ho h1 h2 hel h7 h2' h6.1 h6.2 h5 h8 h9 ht hr hv
  | aeq ks neg sx sy =>
    simp only [chk1] at hc
    split at hc
    case h_2 => cases hc
    rename_i op' xt x y yt ho
    simp only [Bool.and_eq_true, beq_iff_eq, Bool.not_eq_true'] at hc
    obtain ⟨⟨⟨⟨⟨rfl, h1⟩, h2⟩, h3⟩, h4⟩, h5⟩ := hc
    exact aeq_ok ho h4 h5 h1 h2 h3 ht hr hv
  | nileq k neg sx =>
    simp only [chk1] at hc
    split at hc
    case h_2 => cases hc
    rename_i op' xt x y yt ho
    simp only [Bool.and_eq_true, beq_iff_eq] at hc
    obtain ⟨⟨rfl, h1⟩, h2⟩ := hc
    exact nileq_ok ho h2 h1 ht hr hv
  | mm mx xs =>
    simp only [chk1] at hc
    split at hc
    case h_2 => cases hc
    rename_i b args ts ho
    simp only [Bool.and_eq_true] at hc
    have hb : b = (if mx then .max else .min) := by
      have := hc.1
      split at this <;> first | rfl | cases this
    subst hb
    exact mm_ok ho hc.2 ht hr hv
  | sidx sx sy =>
    simp only [chk1] at hc
    split at hc
    case h_2 => cases hc
    rename_i t x y ho
    simp only [Bool.and_eq_true] at hc
    exact sidx_ok ho hc.1.2 hc.2 (isStr_spec hc.1.1) ht hr hv
  | sslc sx slo shi =>
    simp only [chk1] at hc
    split at hc
    case h_2 => cases hc
    rename_i t x lo hi ho
    simp only [Bool.and_eq_true] at hc
    exact sslc_ok ho hc.1.1.2 (isStr_spec hc.1.1.1) hc.1.2 hc.2 ht hr hv
  | mkmap s =>
    simp only [chk1] at hc
    split at hc
    case h_2 => cases hc
    rename_i t ho
    exact mkmap_ok ho hr hv
  | mget ky ok z sx sy =>
    simp only [chk1] at hc
    split at hc
    case h_2 => cases hc
    rename_i t x y ok' ho
    split at hc
    case h_2 => cases hc
    rename_i kt el hm
    simp only [Bool.and_eq_true, beq_iff_eq] at hc
    obtain ⟨⟨⟨⟨rfl, h1⟩, h2⟩, h3⟩, h4⟩ := hc
    exact mget_ok ho h3 h4 hm h1 h2 ht hr hv
  | mput ky sx sy sz =>
    simp only [chk1] at hc
    split at hc
    · rename_i t x y z ho
      split at hc
      case h_2 => cases hc
      rename_i kt el hm
      simp only [Bool.and_eq_true] at hc
      exact mput_ok (.inl ho) hc.1.1.2 hc.1.2 hc.2 hm hc.1.1.1 ht hr hv
    · rename_i t x y z ho
      split at hc
      case h_2 => cases hc
      rename_i kt el hm
      simp only [Bool.and_eq_true] at hc
      exact mput_ok (.inr ho) hc.1.1.2 hc.1.2 hc.2 hm hc.1.1.1 ht hr hv
    · cases hc
  | rng s sx =>
    simp only [chk1] at hc
    split at hc
    case h_2 => cases hc
    rename_i t x ho
    simp only [Bool.and_eq_true] at hc
    exact rng_ok ho hc.2 (isStr_spec hc.1) ht hr hv
  | nxt sx =>
    simp only [chk1] at hc
    split at hc
    case h_2 => cases hc
    rename_i x ho
    exact nxt_ok ho hc ht hr hv
  | loadR sz ag r sx =>
    simp only [chk1] at hc
    split at hc
    case h_2 => cases hc
    rename_i t x ho
    simp only [Bool.and_eq_true] at hc
    refine load_ok (base := base) (old := false) ho hc.1 hc.2 ht hr ?_
    simp only [ev1] at hv ⊢
    split at hv
    case h_2 => cases hv
    rename_i id off hp
    split at hv
    case isFalse => cases hv
    rw [hp]
    simpa [loadAt] using hv
  | storeA sz rs sx sy =>
    simp only [chk1] at hc
    split at hc
    case h_2 => cases hc
    rename_i t x y ho
    simp only [Bool.and_eq_true] at hc
    obtain ⟨i, h1, h2⟩ := sizeIs_spec hc.2
    refine store_ok (base := base) (sz := sz) ho hc.1.1 hc.1.2 (by rw [h1]; simp [h2]) ht hr ?_
    simp only [ev1] at hv ⊢
    split at hv
    case h_2 => cases hv
    rename_i id off hp
    split at hv
    case isFalse => cases hv
    rw [hp]
    unfold storeAt at hv
    split at hv
    · rename_i ds cs hds hcs
      rw [hds]
      simp only [hcs]
      exact hv
    · cases hv
  | loadC sz ag sx =>
    simp only [chk1] at hc
    split at hc
    case h_2 => cases hc
    rename_i t x ho
    simp only [Bool.and_eq_true] at hc
    refine load_ok (base := base) (old := false) ho hc.1 hc.2 ht hr ?_
    simp only [ev1] at hv ⊢
    split at hv
    case h_2 => cases hv
    rename_i cs hp
    rw [hp]
    exact hv
  | storeN s sz sx sy =>
    simp only [chk1] at hc
    split at hc
    case h_2 => cases hc
    rename_i t x y ho
    simp only [Bool.and_eq_true] at hc
    obtain ⟨i, h1, h2⟩ := sizeIs_spec hc.2
    refine store_ok (base := base) (sz := sz) ho hc.1.1 hc.1.2 (by rw [h1]; simp [h2]) ht hr ?_
    simp only [ev1] at hv ⊢
    split at hv
    case h_2 => cases hv
    rename_i id off hp
    split at hv
    case isFalse => cases hv
    rw [hp]
    unfold storeAt at hv
    split at hv
    · rename_i ds cs hds hcs
      rw [hds]
      simp only [hcs]
      exact hv
    · cases hv
  | b2s x => simp [chk1] at hc
  | i2s x => simp [chk1] at hc
  | s2b s x => simp [chk1] at hc
  | ment ks z x k => simp [chk1] at hc
  | mst x i v => simp [chk1] at hc
  | bsliceR sp k z qs =>
    simp only [chk1] at hc
    split at hc
    case h_2 => cases hc
    rename_i t k' ps ho
    split at hc
    case h_2 => cases hc
    rename_i el hel
    simp only [Bool.and_eq_true, beq_iff_eq, decide_eq_true_eq] at hc
    obtain ⟨⟨⟨⟨⟨rfl, hz⟩, hsz⟩, h0⟩, hk⟩, hp⟩ := hc
    obtain ⟨i, zv, h1, h2, h3⟩ := chkZero_spec hz
    obtain ⟨i', h1', h2'⟩ := sizeIs_spec hsz
    rw [h1] at h1'; cases h1'
    exact bsliceR_ok ho hel h1 h2' h0 hk h2 h3 hp ht hr hv
  | slcA len sz sx slo shi =>
    simp only [chk1] at hc
    split at hc
    case h_2 => cases hc
    rename_i t x lo hi ho
    split at hc
    case h_2 => cases hc
    rename_i k el hel
    simp only [Bool.and_eq_true, beq_iff_eq] at hc
    obtain ⟨⟨⟨⟨rfl, h1⟩, h2⟩, h3⟩, h4⟩ := hc
    obtain ⟨i, h5, h6⟩ := sizeIs_spec h2
    exact slcA_ok ho h1 hel h5 h6 h3 h4 ht hr hv
  | cpy sz sx sy =>
    simp only [chk1] at hc
    split at hc
    case h_2 => cases hc
    rename_i args argTypes ho
    split at hc
    case h_2 => cases hc
    rename_i x y t t' hargs htypes
    split at hc
    case h_2 => cases hc
    rename_i el hel
    simp only [Bool.and_eq_true] at hc
    obtain ⟨i, h5, h6⟩ := sizeIs_spec hc.2
    rw [arr2 hargs, arr2 htypes] at ho
    exact cpy_ok ho hc.1.1 hc.1.2 hel h5 h6 ht hr hv
  | kcall ro f xs => simp [chk1] at hc
  | pcall f xs => simp [chk1] at hc
  | scall f xs => simp [chk1] at hc
  | scallA rs f xs => simp [chk1] at hc
  | vcall ro f xs => simp [chk1] at hc

/-- A contract of a function: at these canonical arguments it returns, in whatever memory. -/
def FOK (P : Program) (fm : Fm) (f : Nat) (args : List V) (H : Heap) (r : V) (H' : Heap) : Prop :=
  H.length ≤ H'.length ∧ ∀ (M : Mm) (w : World) (vargs : List Value), M.fm = fm → HRel M w H → EncL M w args vargs →
    ((∃ F, P.funcs[fm f]? = some F ∧ F.body.isSome = true ∧ F.name ≠ "runtime.NumGoroutine") ∧
    Calls P (fm f) vargs.toArray w fun en w' => ∃ rv M', en = .returned rv ∧ Enc M' w' r rv ∧ Stp M H w M' H' w' ∧ Ids M M' H.length ∧ HRel M' w' H')

/-- One operation, calls by contracts. -/
inductive SS (P : Program) (fm : Fm) (base : Nat) (o : SOper) : Env → Heap → Env → Heap → Prop
  | ev {e H v H1} : wanted e o = some true → ev1 base e H o.op = some (v, H1) → SS P fm base o e H (e.put o.dst v) H1
  | skip {e H} : wanted e o = some false → SS P fm base o e H (e.put o.dst .skp) H
  | pcall {e H f xs r H1} : wanted e o = some true → o.op = .pcall f xs → FOK P fm f (outL (xs.map (X.ev e))) [] r H1 → SS P fm base o e H (e.put o.dst (frz H1 r).out) H
  | scall {e H f xs r H1} : wanted e o = some true → o.op = .scall f xs → FOK P fm f (xs.map (X.ev e)) H r H1 → SS P fm base o e H (e.put o.dst (r.cl H.length)) (trunc H.length H1)
  | scallA {e H rs f xs r H1} : wanted e o = some true → o.op = .scallA rs f xs → FOK P fm f (xs.map (X.ev e)) H r H1 → Leaves e rs H (trunc H.length H1) → SS P fm base o e H (e.put o.dst (r.cl H.length)) (trunc H.length H1)
  | kcall {e H ro f xs r H1} : wanted e o = some true → o.op = .kcall ro f xs → FOK P fm f (xs.map (X.ev e)) H r H1 → (ro = true → base ≤ H.length ∧ H1.take H.length = H) → SS P fm base o e H (e.put o.dst r) H1
  | vcall {e H ro fx xs f cap r H1} : wanted e o = some true → o.op = .vcall ro fx xs → fx.ev e = .fn f cap → FOK P fm f (xs.map (X.ev e) ++ cap) H r H1 → (ro = true → trunc H.length H1 = H) →
      SS P fm base o e H (e.put o.dst (r.cl H.length)) (trunc H.length H1)

def chkCall (fm : Fm) (o : Op) (s : SOp) : Bool :=
  match s with
  | .pcall f xs => match o with
    | .call { callee := .value (.func f'), args, argTypes := _ } => f' == fm f && chkXs fm args.toList xs
    | _ => false
  | .scall f xs => match o with
    | .call { callee := .value (.func f'), args, argTypes := _ } => f' == fm f && chkXs fm args.toList xs
    | _ => false
  | .scallA _ f xs => match o with
    | .call { callee := .value (.func f'), args, argTypes := _ } => f' == fm f && chkXs fm args.toList xs
    | _ => false
  | .kcall _ f xs => match o with
    | .call { callee := .value (.func f'), args, argTypes := _ } => f' == fm f && chkXs fm args.toList xs
    | _ => false
  | .vcall _ fx xs => match o with
    | .call { callee := .value fo, args, argTypes := _ } => chkX fm fo fx && chkXs fm args.toList xs
    | _ => false
  | _ => false

def chkGuard (ops : Array Oper) (g : Option (Nat × Bool)) (s : Option (Nat × Bool)) : Bool :=
  match g, s with
  | none, none => true
  | some (j, want), some (t, want') => want == want' && (match (ops[j]?).bind (·.dst) with | some d => d == t | none => false)
  | _, _ => false

def chkOper (P : Program) (fm : Fm) (n : Nat) (ops : Array Oper) (o : Oper) (s : SOper) : Bool :=
  (match o.dst, s.dst with | none, none => true | some d, some d' => d == d' && decide (d < n) | _, _ => false) && chkGuard ops o.guard s.guard &&
    (chk1 P fm o.op s.op || chkCall fm o.op s.op)

theorem wanted_ok {e : Env} {a : Act} {n : Nat} {ops : Array Oper} {o : Oper} {s : SOper} {b : Bool} (hg : chkGuard ops o.guard s.guard = true) (ht : RelT M w e a n) (hw : wanted e s = some b) :
    Region.wanted o (yielded ops a.tmps) = b := by
  unfold chkGuard at hg
  unfold wanted at hw
  unfold Region.wanted
  split at hg
  · rename_i h1 h2
    simp only [h2, Option.some.injEq] at hw
    simp only [h1]
    exact hw
  · rename_i j want t want' h1 h2
    simp only [h2] at hw
    simp only [h1]
    simp only [Bool.and_eq_true, beq_iff_eq] at hg
    obtain ⟨rfl, hg⟩ := hg
    split at hg
    case h_2 => cases hg
    rename_i d hd
    simp only [beq_iff_eq] at hg
    subst hg
    split at hw
    case h_3 => cases hw
    case h_2 =>
      rename_i hc
      simp only [Option.some.injEq] at hw
      subst hw
      have := ht.rel d
      rw [hc] at this
      simp only [Enc] at this
      have hy : yielded ops a.tmps j = none := by
        unfold yielded
        simp only [hd, Option.bind_some]
        rw [Array.getD_eq_getD_getElem?] at this
        cases hq : a.tmps[d]? with
        | none => rfl
        | some x => rw [hq] at this; simp only [Option.getD_some] at this; subst this; rfl
      rw [hy]; rfl
    rename_i c hc
    simp only [Option.some.injEq] at hw
    subst hw
    have := ht.rel d
    rw [hc] at this
    simp only [Enc] at this
    have hget : a.tmps[d]? = some (.bool c) := by
      rw [Array.getD_eq_getD_getElem?] at this
      cases hq : a.tmps[d]? with
      | none => rw [hq] at this; simp [undef] at this
      | some x => rw [hq] at this; simp at this; rw [this]
    simp [yielded, hd, hget]
  · cases hg

/-- A temporary gets its value. -/
theorem relT_put {e : Env} {a : Act} {n : Nat} {d : Option Nat} {v : V} {rv : Value} (ht : RelT M w e a n) (hd : ∀ k, d = some k → k < n) (he : d.isSome = true → Enc M w v rv) : RelT M w (e.put d v) (a.put d rv) n := by
  cases d with
  | none => exact ht
  | some k =>
    have hk := hd k rfl
    refine ⟨by simp [Act.put, ht.size], ht.defers, fun i => ?_, ht.glo⟩
    simp only [Env.put_some, Act.put]
    have hs := ht.size
    by_cases hi : i = k
    · subst hi
      rw [if_pos rfl]
      rw [Array.getD_eq_getD_getElem?, Array.getElem?_setIfInBounds_self_of_lt (by omega)]
      exact he rfl
    · rw [if_neg hi, Array.getD_eq_getD_getElem?, Array.getElem?_setIfInBounds_ne (by omega), ← Array.getD_eq_getD_getElem?]
      exact ht.rel i

theorem RelT.step {e : Env} {a : Act} {n : Nat} {H' : Heap} (h : Stp M H w M' H' w') (hr : HRel M w H) (hi : Ids M M' H.length) (ht : RelT M w e a n) : RelT M' w' e a n :=
  ⟨ht.size, ht.defers, fun i => Enc.step h hr hi (ht.rel i), ht.glo.step h hr hi⟩

end Go.Ev
