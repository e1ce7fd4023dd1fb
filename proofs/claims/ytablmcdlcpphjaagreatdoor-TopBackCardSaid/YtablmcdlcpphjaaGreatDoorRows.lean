/-
  NARROWER THAN 'FOR EVERY INPUT', by the rows' own cells (each row's printed sentence says how): TopBack: laid.
  DERIVED. THE GIVEN ROWS OF THIS SEAT. 1 by the template 'for every input the law returns true; each argument reads behind the call as it read before'; 0 by the template 'total and deterministic' (their statements: YtablmcdlcpphjaaGreatDoorTotals.lean).
  GIVEN WITH THE SEED: the statements are not yours to turn. If you find one false, say at which input.
  Laid BY PROGRAM, IN A SANDBOX (cutbox-rows.mjs): the forced cells as the released guide's own fill.sh prints them over the translation 857cc7f9ca64a534… (all of the seat's roots in one cut). By AI agents, Wed Nov 11 2026. No macro, syntax, notation, axiom, sorry.
-/
import Derived.Test.YtablmcdlcpphjaaGreatDoorChecked
import GoSem.Claim
import GoSem.ClaimJoined
import GoSem.ClaimMapViews
import Derived.JoinedTies
import Derived.KernelRfl
namespace Go.Proofs.YtablmcdlcpphjaaGreatDoor
/- THE CELL 'sum', in the pinned program and in every row, IS THE sha256 OF THE DUMP (.gsa) THAT YtablmcdlcpphjaaGreatDoorProg.lean LOADS. Nothing in Lean hashes anything: it is a label: what it is worth is what the hold of that sum in a sandbox is worth. -/
noncomputable def Tryz.pinned : Pinned := { name := "ytablmcdlcpphjaagreatdoor", sum := "857cc7f9ca64a53493b570ef9484b392c1fcca40bcaf39b7829c61c8b17c4de5", checked := Tryz.checked }
namespace Rows
def none {H : Type} : Left H := { results := [], args := [] }

/- WHAT THE LISTED PACKAGE-LEVEL VARIABLES READ AS WHEN THE CALL BEGINS. Each datum BY PROGRAM (the guide's laid-datum.mjs) off the statement by which the dump's own 'gosem.cut.vars' lays the variable. In a bare row this is a premise. The card (YtablmcdlcpphjaaGreatDoorCards.lean) ties it to the program's text. -/
def laid_hurdle_ins_shapes {H : Type} : DataW H := .agg [.agg [.lit (.int .i64 0), .lit (.string [108, 100]), .lit (.bool true), .lit (.bool false)], .agg [.lit (.int .i64 1), .lit (.string [108, 100, 120]), .lit (.bool true), .lit (.bool false)], .agg [.lit (.int .i64 2), .lit (.string [115, 116]), .lit (.bool true), .lit (.bool false)], .agg [.lit (.int .i64 3), .lit (.string [115, 116, 120]), .lit (.bool true), .lit (.bool false)], .agg [.lit (.int .i64 4), .lit (.string [97, 100, 100]), .lit (.bool true), .lit (.bool false)], .agg [.lit (.int .i64 20), .lit (.string [115, 117, 98]), .lit (.bool true), .lit (.bool false)], .agg [.lit (.int .i64 36), .lit (.string [109, 117, 108]), .lit (.bool true), .lit (.bool false)], .agg [.lit (.int .i64 52), .lit (.string [100, 105, 118]), .lit (.bool true), .lit (.bool false)], .agg [.lit (.int .i64 68), .lit (.string [111, 114]), .lit (.bool true), .lit (.bool false)], .agg [.lit (.int .i64 84), .lit (.string [97, 110, 100]), .lit (.bool true), .lit (.bool false)], .agg [.lit (.int .i64 100), .lit (.string [108, 115, 104]), .lit (.bool true), .lit (.bool false)], .agg [.lit (.int .i64 116), .lit (.string [114, 115, 104]), .lit (.bool true), .lit (.bool false)], .agg [.lit (.int .i64 164), .lit (.string [120, 111, 114]), .lit (.bool true), .lit (.bool false)], .agg [.lit (.int .i64 12), .lit (.string [97, 100, 100, 120]), .lit (.bool false), .lit (.bool false)], .agg [.lit (.int .i64 28), .lit (.string [115, 117, 98, 120]), .lit (.bool false), .lit (.bool false)], .agg [.lit (.int .i64 44), .lit (.string [109, 117, 108, 120]), .lit (.bool false), .lit (.bool false)], .agg [.lit (.int .i64 60), .lit (.string [100, 105, 118, 120]), .lit (.bool false), .lit (.bool false)], .agg [.lit (.int .i64 76), .lit (.string [111, 114, 120]), .lit (.bool false), .lit (.bool false)], .agg [.lit (.int .i64 92), .lit (.string [97, 110, 100, 120]), .lit (.bool false), .lit (.bool false)], .agg [.lit (.int .i64 108), .lit (.string [108, 115, 104, 120]), .lit (.bool false), .lit (.bool false)], .agg [.lit (.int .i64 124), .lit (.string [114, 115, 104, 120]), .lit (.bool false), .lit (.bool false)], .agg [.lit (.int .i64 172), .lit (.string [120, 111, 114, 120]), .lit (.bool false), .lit (.bool false)], .agg [.lit (.int .i64 132), .lit (.string [110, 101, 103]), .lit (.bool false), .lit (.bool false)], .agg [.lit (.int .i64 7), .lit (.string [116, 97, 120]), .lit (.bool false), .lit (.bool false)], .agg [.lit (.int .i64 135), .lit (.string [116, 120, 97]), .lit (.bool false), .lit (.bool false)], .agg [.lit (.int .i64 32), .lit (.string [97, 98, 115]), .lit (.bool true), .lit (.bool false)], .agg [.lit (.int .i64 96), .lit (.string [109, 101, 109]), .lit (.bool true), .lit (.bool false)], .agg [.lit (.int .i64 97), .lit (.string [109, 101, 109, 120]), .lit (.bool true), .lit (.bool false)], .agg [.lit (.int .i64 5), .lit (.string [106, 97]), .lit (.bool true), .lit (.bool false)], .agg [.lit (.int .i64 6), .lit (.string [114, 101, 116]), .lit (.bool true), .lit (.bool false)], .agg [.lit (.int .i64 22), .lit (.string [114, 101, 116, 97]), .lit (.bool false), .lit (.bool false)], .agg [.lit (.int .i64 21), .lit (.string [106, 101, 113]), .lit (.bool true), .lit (.bool true)], .agg [.lit (.int .i64 37), .lit (.string [106, 103, 116]), .lit (.bool true), .lit (.bool true)], .agg [.lit (.int .i64 53), .lit (.string [106, 103, 101]), .lit (.bool true), .lit (.bool true)], .agg [.lit (.int .i64 69), .lit (.string [106, 115, 101, 116]), .lit (.bool true), .lit (.bool true)], .agg [.lit (.int .i64 29), .lit (.string [106, 101, 113, 120]), .lit (.bool false), .lit (.bool true)], .agg [.lit (.int .i64 45), .lit (.string [106, 103, 116, 120]), .lit (.bool false), .lit (.bool true)], .agg [.lit (.int .i64 61), .lit (.string [106, 103, 101, 120]), .lit (.bool false), .lit (.bool true)], .agg [.lit (.int .i64 77), .lit (.string [106, 115, 101, 116, 120]), .lit (.bool false), .lit (.bool true)]]

/-- 'hurdletop.TopBack': WHATEVER THE INPUT: true; the input reads as it did. -/
def topBackSpec : ChangeSpec := { name := "topBack", fn := fun _ => fun
  | [d1, d2] => { results := [.lit (.bool true)], args := [d1, d2] }
  | _ => none }
def topBackRow : OpenClaim := { program := "ytablmcdlcpphjaagreatdoor", sum := "857cc7f9ca64a53493b570ef9484b392c1fcca40bcaf39b7829c61c8b17c4de5", func := "hurdle/hurdletop.TopBack", spec := "topBack", unfollowed := true, recurses := true, named := ["hurdle/ins.shapes"], plainKeys := false, apart := false, laid := [("hurdle/ins.shapes", laid_hurdle_ins_shapes)] }
def TopBackSaid : Prop := topBackRow.holds Tryz.pinned (OpenSpec.ofChange topBackSpec)

/-- ITS FALSE NEIGHBOUR: 'it returns false'. Refute it at one input. -/
def topBackWrong : ChangeSpec := { name := "topBack", fn := fun _ => fun
  | [d1, d2] => { results := [.lit (.bool false)], args := [d1, d2] }
  | _ => none }
def TopBackWrongFalsely : Prop := topBackRow.holds Tryz.pinned (OpenSpec.ofChange topBackWrong)

/- THE SECOND FORM. 'bulk': how many values and letters a reading holds, each counted each time it is reached (what is shared counts as often as it is met; a slice's spare places count too). A statement '..UptoSaid' is the law's where the arguments, and the package variables that the reading takes, are together of bulk at most 1048576: NARROWER than '..Said'. Prove '..Said' where nothing that the law and all that it calls make is longer than what came in: it says more and counts as full. Else prove '..UptoSaid'. A law counts once. -/
mutual
def uptoBulk {H : Type} : DataW H → Nat
  | .lit (.string bytes) => bytes.length + 1
  | .lit _ => 1
  | .nil => 1
  | .ptr d => uptoBulk d + 1
  | .slice elems spare => uptoBulkAll elems + uptoBulkAll spare + 1
  | .agg parts => uptoBulkAll parts + 1
  | .iface _ d => uptoBulk d + 1
  | .map entries => uptoBulkEntries entries + 1
  | .held _ => 1
def uptoBulkAll {H : Type} : List (DataW H) → Nat
  | [] => 0
  | d :: r => uptoBulk d + uptoBulkAll r
def uptoBulkEntries {H : Type} : List (Lit × DataW H) → Nat
  | [] => 0
  | x :: r => uptoBulkEntry x + uptoBulkEntries r
def uptoBulkEntry {H : Type} : Lit × DataW H → Nat
  | (.string bytes, d) => bytes.length + uptoBulk d + 1
  | (_, d) => uptoBulk d + 1
 end
def uptoSmall : (H : Type) → List (DataW H) → Bool := fun _ ds => decide (uptoBulkAll ds ≤ 1048576)
def OpenSpec.upto (s : _root_.Go.ChangeSpec) : _root_.Go.OpenSpec := { _root_.Go.OpenSpec.ofChange s with cond := some uptoSmall }

/-- 'hurdletop.TopBack', WHERE WHAT IT READS IS OF BULK AT MOST 1048576: true; the input reads as it did. -/
def topBackUptoRow : OpenClaim := { program := "ytablmcdlcpphjaagreatdoor", sum := "857cc7f9ca64a53493b570ef9484b392c1fcca40bcaf39b7829c61c8b17c4de5", func := "hurdle/hurdletop.TopBack", spec := "topBack", unfollowed := true, recurses := true, named := ["hurdle/ins.shapes"], plainKeys := false, apart := false, laid := [("hurdle/ins.shapes", laid_hurdle_ins_shapes)], narrowed := true }
def TopBackUptoSaid : Prop := topBackUptoRow.holds Tryz.pinned (OpenSpec.upto topBackSpec)

end Rows
end Go.Proofs.YtablmcdlcpphjaaGreatDoor
