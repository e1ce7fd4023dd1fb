/-
  No cell of these rows narrows 'for every input' (looked for: loops, veiled, ifaces, maps, wideKeys, modest, calm, conditions, laid).
  DERIVED. THE GIVEN ROWS OF THIS SEAT. 4 by the template 'for every input the law returns true; each argument reads behind the call as it read before'; 0 by the template 'total and deterministic' (their statements: YtdomogpjchpbnaaTotals.lean).
  GIVEN WITH THE SEED: the statements are not yours to turn. If you find one false, say at which input.
  Laid BY PROGRAM, IN A SANDBOX (cutbox-rows.mjs): the forced cells as the released guide's own fill.sh prints them over the translation 31b9cc92a7574627… (all of the seat's roots in one cut). By AI agents, Wed Nov 11 2026. No macro, syntax, notation, axiom, sorry.
-/
import Derived.Test.YtdomogpjchpbnaaChecked
import GoSem.Claim
import GoSem.ClaimJoined
import GoSem.ClaimMapViews
import Derived.JoinedTies
import Derived.KernelRfl
namespace Go.Proofs.Ytdomogpjchpbnaa
/- THE CELL 'sum', in the pinned program and in every row, IS THE sha256 OF THE DUMP (.gsa) THAT YtdomogpjchpbnaaProg.lean LOADS. Nothing in Lean hashes anything: it is a label: what it is worth is what the hold of that sum in a sandbox is worth. -/
noncomputable def Try.pinned : Pinned := { name := "ytdomogpjchpbnaa", sum := "31b9cc92a757462709514a0684a18eef973e5ab112754baf3ce5317cfcb551ea", checked := Try.checked }
namespace Rows
def none {H : Type} : Left H := { results := [], args := [] }

/-- 'hurdlelaw16.SymSound': WHATEVER THE INPUT: true; the input reads as it did. -/
def symSoundSpec : ChangeSpec := { name := "symSound", fn := fun _ => fun
  | [d1, d2] => { results := [.lit (.bool true)], args := [d1, d2] }
  | _ => none }
def symSoundRow : OpenClaim := { program := "ytdomogpjchpbnaa", sum := "31b9cc92a757462709514a0684a18eef973e5ab112754baf3ce5317cfcb551ea", func := "hurdle/hurdlelaw16.SymSound", spec := "symSound", unfollowed := true, recurses := true, plainKeys := false, apart := false }
def SymSoundSaid : Prop := symSoundRow.holds Try.pinned (OpenSpec.ofChange symSoundSpec)

/-- ITS FALSE NEIGHBOUR: 'it returns false'. Refute it at one input. -/
def symSoundWrong : ChangeSpec := { name := "symSound", fn := fun _ => fun
  | [d1, d2] => { results := [.lit (.bool false)], args := [d1, d2] }
  | _ => none }
def SymSoundWrongFalsely : Prop := symSoundRow.holds Try.pinned (OpenSpec.ofChange symSoundWrong)

/-- 'hurdlelaw16.SymExact': WHATEVER THE INPUT: true; the input reads as it did. -/
def symExactSpec : ChangeSpec := { name := "symExact", fn := fun _ => fun
  | [d] => { results := [.lit (.bool true)], args := [d] }
  | _ => none }
def symExactRow : OpenClaim := { program := "ytdomogpjchpbnaa", sum := "31b9cc92a757462709514a0684a18eef973e5ab112754baf3ce5317cfcb551ea", func := "hurdle/hurdlelaw16.SymExact", spec := "symExact", unfollowed := true, recurses := true, plainKeys := false, apart := false }
def SymExactSaid : Prop := symExactRow.holds Try.pinned (OpenSpec.ofChange symExactSpec)

/-- ITS FALSE NEIGHBOUR: 'it returns false'. Refute it at one input. -/
def symExactWrong : ChangeSpec := { name := "symExact", fn := fun _ => fun
  | [d] => { results := [.lit (.bool false)], args := [d] }
  | _ => none }
def SymExactWrongFalsely : Prop := symExactRow.holds Try.pinned (OpenSpec.ofChange symExactWrong)

/-- 'hurdlelaw16.SymEvals': WHATEVER THE INPUT: true; the input reads as it did. -/
def symEvalsSpec : ChangeSpec := { name := "symEvals", fn := fun _ => fun
  | [d1, d2] => { results := [.lit (.bool true)], args := [d1, d2] }
  | _ => none }
def symEvalsRow : OpenClaim := { program := "ytdomogpjchpbnaa", sum := "31b9cc92a757462709514a0684a18eef973e5ab112754baf3ce5317cfcb551ea", func := "hurdle/hurdlelaw16.SymEvals", spec := "symEvals", unfollowed := true, recurses := true, plainKeys := false, apart := false }
def SymEvalsSaid : Prop := symEvalsRow.holds Try.pinned (OpenSpec.ofChange symEvalsSpec)

/-- ITS FALSE NEIGHBOUR: 'it returns false'. Refute it at one input. -/
def symEvalsWrong : ChangeSpec := { name := "symEvals", fn := fun _ => fun
  | [d1, d2] => { results := [.lit (.bool false)], args := [d1, d2] }
  | _ => none }
def SymEvalsWrongFalsely : Prop := symEvalsRow.holds Try.pinned (OpenSpec.ofChange symEvalsWrong)

/-- 'hurdlelaw16.SymNil': WHATEVER THE INPUT: true; the input reads as it did. -/
def symNilSpec : ChangeSpec := { name := "symNil", fn := fun _ => fun
  | [d1, d2, d3] => { results := [.lit (.bool true)], args := [d1, d2, d3] }
  | _ => none }
def symNilRow : OpenClaim := { program := "ytdomogpjchpbnaa", sum := "31b9cc92a757462709514a0684a18eef973e5ab112754baf3ce5317cfcb551ea", func := "hurdle/hurdlelaw16.SymNil", spec := "symNil", unfollowed := true, recurses := true, plainKeys := false, apart := false }
def SymNilSaid : Prop := symNilRow.holds Try.pinned (OpenSpec.ofChange symNilSpec)

/-- ITS FALSE NEIGHBOUR: 'it returns false'. Refute it at one input. -/
def symNilWrong : ChangeSpec := { name := "symNil", fn := fun _ => fun
  | [d1, d2, d3] => { results := [.lit (.bool false)], args := [d1, d2, d3] }
  | _ => none }
def SymNilWrongFalsely : Prop := symNilRow.holds Try.pinned (OpenSpec.ofChange symNilWrong)

/- THE SECOND FORM. 'bulk': how many values and letters a reading holds, each counted each time it is reached (what is shared counts as often as it is met; a slice's spare places count too). A statement '..UptoSaid' is the law's where the arguments, and the package variables that the reading takes, are together of bulk at most 1048576: NARROWER than '..Said'. Prove '..Said' where nothing that the law and all that it calls make is longer than what came in: it says more and counts as full. Else prove '..UptoSaid'. A law counts once. -/
mutual
def uptoBulk {H : Type} : DataW H → Nat
  | .lit (.string bytes) => bytes.length + 1
  | .lit _ => 1
  | .nil => 1
  | .ptr d => uptoBulk d + 1
  | .slice elems spare => uptoBulkAll elems + uptoBulkAll spare + 1
  | .agg parts => uptoBulkAll parts + 1
  | .iface _ d => uptoBulk d + 1
  | .map entries => uptoBulkEntries entries + 1
  | .held _ => 1
def uptoBulkAll {H : Type} : List (DataW H) → Nat
  | [] => 0
  | d :: r => uptoBulk d + uptoBulkAll r
def uptoBulkEntries {H : Type} : List (Lit × DataW H) → Nat
  | [] => 0
  | x :: r => uptoBulkEntry x + uptoBulkEntries r
def uptoBulkEntry {H : Type} : Lit × DataW H → Nat
  | (.string bytes, d) => bytes.length + uptoBulk d + 1
  | (_, d) => uptoBulk d + 1
 end
def uptoSmall : (H : Type) → List (DataW H) → Bool := fun _ ds => decide (uptoBulkAll ds ≤ 1048576)
def OpenSpec.upto (s : _root_.Go.ChangeSpec) : _root_.Go.OpenSpec := { _root_.Go.OpenSpec.ofChange s with cond := some uptoSmall }

/-- 'hurdlelaw16.SymSound', WHERE WHAT IT READS IS OF BULK AT MOST 1048576: true; the input reads as it did. -/
def symSoundUptoRow : OpenClaim := { program := "ytdomogpjchpbnaa", sum := "31b9cc92a757462709514a0684a18eef973e5ab112754baf3ce5317cfcb551ea", func := "hurdle/hurdlelaw16.SymSound", spec := "symSound", unfollowed := true, recurses := true, plainKeys := false, apart := false, narrowed := true }
def SymSoundUptoSaid : Prop := symSoundUptoRow.holds Try.pinned (OpenSpec.upto symSoundSpec)

/-- 'hurdlelaw16.SymExact', WHERE WHAT IT READS IS OF BULK AT MOST 1048576: true; the input reads as it did. -/
def symExactUptoRow : OpenClaim := { program := "ytdomogpjchpbnaa", sum := "31b9cc92a757462709514a0684a18eef973e5ab112754baf3ce5317cfcb551ea", func := "hurdle/hurdlelaw16.SymExact", spec := "symExact", unfollowed := true, recurses := true, plainKeys := false, apart := false, narrowed := true }
def SymExactUptoSaid : Prop := symExactUptoRow.holds Try.pinned (OpenSpec.upto symExactSpec)

/-- 'hurdlelaw16.SymEvals', WHERE WHAT IT READS IS OF BULK AT MOST 1048576: true; the input reads as it did. -/
def symEvalsUptoRow : OpenClaim := { program := "ytdomogpjchpbnaa", sum := "31b9cc92a757462709514a0684a18eef973e5ab112754baf3ce5317cfcb551ea", func := "hurdle/hurdlelaw16.SymEvals", spec := "symEvals", unfollowed := true, recurses := true, plainKeys := false, apart := false, narrowed := true }
def SymEvalsUptoSaid : Prop := symEvalsUptoRow.holds Try.pinned (OpenSpec.upto symEvalsSpec)

/-- 'hurdlelaw16.SymNil', WHERE WHAT IT READS IS OF BULK AT MOST 1048576: true; the input reads as it did. -/
def symNilUptoRow : OpenClaim := { program := "ytdomogpjchpbnaa", sum := "31b9cc92a757462709514a0684a18eef973e5ab112754baf3ce5317cfcb551ea", func := "hurdle/hurdlelaw16.SymNil", spec := "symNil", unfollowed := true, recurses := true, plainKeys := false, apart := false, narrowed := true }
def SymNilUptoSaid : Prop := symNilUptoRow.holds Try.pinned (OpenSpec.upto symNilSpec)

end Rows
end Go.Proofs.Ytdomogpjchpbnaa
