/-
  NARROWER THAN 'FOR EVERY INPUT', by the rows' own cells (each row's printed sentence says how): SplicePuts: laid · SplicePieces: laid · SpliceSound: laid · SpliceSelf: laid · SpliceRows: laid · LiveTells: laid · LivePlaces: laid · LiveRuns: laid · LiveLast: laid · LiveBranches: laid · LiveSteps: laid.
  DERIVED. THE GIVEN ROWS OF THIS SEAT. 11 by the template 'for every input the law returns true; each argument reads behind the call as it read before'; 0 by the template 'total and deterministic' (their statements: YtnlhnffijidioaaDoorTotals.lean).
  GIVEN WITH THE SEED: the statements are not yours to turn. If you find one false, say at which input.
  Laid BY PROGRAM, IN A SANDBOX (cutbox-rows.mjs): the forced cells as the released guide's own fill.sh prints them over the translation a1055e38143efbc1… (all of the seat's roots in one cut). By AI agents, Wed Nov 11 2026. No macro, syntax, notation, axiom, sorry.
-/
import Derived.Test.YtnlhnffijidioaaDoorChecked
import GoSem.Claim
import GoSem.ClaimJoined
import GoSem.ClaimMapViews
import Derived.JoinedTies
import Derived.KernelRfl
namespace Go.Proofs.YtnlhnffijidioaaDoor
/- THE CELL 'sum', in the pinned program and in every row, IS THE sha256 OF THE DUMP (.gsa) THAT YtnlhnffijidioaaDoorProg.lean LOADS. Nothing in Lean hashes anything: it is a label: what it is worth is what the hold of that sum in a sandbox is worth. -/
noncomputable def Tryd.pinned : Pinned := { name := "ytnlhnffijidioaadoor", sum := "a1055e38143efbc1ae33dd83f136e5c00522b1b1694b41f822c501241583cae4", checked := Tryd.checked }
namespace Rows
def none {H : Type} : Left H := { results := [], args := [] }

/- WHAT THE LISTED PACKAGE-LEVEL VARIABLES READ AS WHEN THE CALL BEGINS. Each datum BY PROGRAM (the guide's laid-datum.mjs) off the statement by which the dump's own 'gosem.cut.vars' lays the variable. In a bare row this is a premise. The card (YtnlhnffijidioaaDoorCards.lean) ties it to the program's text. -/
def laid_hurdle_ins_shapes {H : Type} : DataW H := .agg [.agg [.lit (.int .i64 0), .lit (.string [108, 100]), .lit (.bool true), .lit (.bool false)], .agg [.lit (.int .i64 1), .lit (.string [108, 100, 120]), .lit (.bool true), .lit (.bool false)], .agg [.lit (.int .i64 2), .lit (.string [115, 116]), .lit (.bool true), .lit (.bool false)], .agg [.lit (.int .i64 3), .lit (.string [115, 116, 120]), .lit (.bool true), .lit (.bool false)], .agg [.lit (.int .i64 4), .lit (.string [97, 100, 100]), .lit (.bool true), .lit (.bool false)], .agg [.lit (.int .i64 20), .lit (.string [115, 117, 98]), .lit (.bool true), .lit (.bool false)], .agg [.lit (.int .i64 36), .lit (.string [109, 117, 108]), .lit (.bool true), .lit (.bool false)], .agg [.lit (.int .i64 52), .lit (.string [100, 105, 118]), .lit (.bool true), .lit (.bool false)], .agg [.lit (.int .i64 68), .lit (.string [111, 114]), .lit (.bool true), .lit (.bool false)], .agg [.lit (.int .i64 84), .lit (.string [97, 110, 100]), .lit (.bool true), .lit (.bool false)], .agg [.lit (.int .i64 100), .lit (.string [108, 115, 104]), .lit (.bool true), .lit (.bool false)], .agg [.lit (.int .i64 116), .lit (.string [114, 115, 104]), .lit (.bool true), .lit (.bool false)], .agg [.lit (.int .i64 164), .lit (.string [120, 111, 114]), .lit (.bool true), .lit (.bool false)], .agg [.lit (.int .i64 12), .lit (.string [97, 100, 100, 120]), .lit (.bool false), .lit (.bool false)], .agg [.lit (.int .i64 28), .lit (.string [115, 117, 98, 120]), .lit (.bool false), .lit (.bool false)], .agg [.lit (.int .i64 44), .lit (.string [109, 117, 108, 120]), .lit (.bool false), .lit (.bool false)], .agg [.lit (.int .i64 60), .lit (.string [100, 105, 118, 120]), .lit (.bool false), .lit (.bool false)], .agg [.lit (.int .i64 76), .lit (.string [111, 114, 120]), .lit (.bool false), .lit (.bool false)], .agg [.lit (.int .i64 92), .lit (.string [97, 110, 100, 120]), .lit (.bool false), .lit (.bool false)], .agg [.lit (.int .i64 108), .lit (.string [108, 115, 104, 120]), .lit (.bool false), .lit (.bool false)], .agg [.lit (.int .i64 124), .lit (.string [114, 115, 104, 120]), .lit (.bool false), .lit (.bool false)], .agg [.lit (.int .i64 172), .lit (.string [120, 111, 114, 120]), .lit (.bool false), .lit (.bool false)], .agg [.lit (.int .i64 132), .lit (.string [110, 101, 103]), .lit (.bool false), .lit (.bool false)], .agg [.lit (.int .i64 7), .lit (.string [116, 97, 120]), .lit (.bool false), .lit (.bool false)], .agg [.lit (.int .i64 135), .lit (.string [116, 120, 97]), .lit (.bool false), .lit (.bool false)], .agg [.lit (.int .i64 32), .lit (.string [97, 98, 115]), .lit (.bool true), .lit (.bool false)], .agg [.lit (.int .i64 96), .lit (.string [109, 101, 109]), .lit (.bool true), .lit (.bool false)], .agg [.lit (.int .i64 97), .lit (.string [109, 101, 109, 120]), .lit (.bool true), .lit (.bool false)], .agg [.lit (.int .i64 5), .lit (.string [106, 97]), .lit (.bool true), .lit (.bool false)], .agg [.lit (.int .i64 6), .lit (.string [114, 101, 116]), .lit (.bool true), .lit (.bool false)], .agg [.lit (.int .i64 22), .lit (.string [114, 101, 116, 97]), .lit (.bool false), .lit (.bool false)], .agg [.lit (.int .i64 21), .lit (.string [106, 101, 113]), .lit (.bool true), .lit (.bool true)], .agg [.lit (.int .i64 37), .lit (.string [106, 103, 116]), .lit (.bool true), .lit (.bool true)], .agg [.lit (.int .i64 53), .lit (.string [106, 103, 101]), .lit (.bool true), .lit (.bool true)], .agg [.lit (.int .i64 69), .lit (.string [106, 115, 101, 116]), .lit (.bool true), .lit (.bool true)], .agg [.lit (.int .i64 29), .lit (.string [106, 101, 113, 120]), .lit (.bool false), .lit (.bool true)], .agg [.lit (.int .i64 45), .lit (.string [106, 103, 116, 120]), .lit (.bool false), .lit (.bool true)], .agg [.lit (.int .i64 61), .lit (.string [106, 103, 101, 120]), .lit (.bool false), .lit (.bool true)], .agg [.lit (.int .i64 77), .lit (.string [106, 115, 101, 116, 120]), .lit (.bool false), .lit (.bool true)]]

/-- 'hurdlelaw22.SplicePuts': WHATEVER THE INPUT: true; the input reads as it did. -/
def splicePutsSpec : ChangeSpec := { name := "splicePuts", fn := fun _ => fun
  | [d1, d2, d3, d4] => { results := [.lit (.bool true)], args := [d1, d2, d3, d4] }
  | _ => none }
def splicePutsRow : OpenClaim := { program := "ytnlhnffijidioaadoor", sum := "a1055e38143efbc1ae33dd83f136e5c00522b1b1694b41f822c501241583cae4", func := "hurdle/hurdlelaw22.SplicePuts", spec := "splicePuts", unfollowed := true, recurses := true, named := ["hurdle/ins.shapes"], apart := false, laid := [("hurdle/ins.shapes", laid_hurdle_ins_shapes)] }
def SplicePutsSaid : Prop := splicePutsRow.holds Tryd.pinned (OpenSpec.ofChange splicePutsSpec)

/-- ITS FALSE NEIGHBOUR: 'it returns false'. Refute it at one input. -/
def splicePutsWrong : ChangeSpec := { name := "splicePuts", fn := fun _ => fun
  | [d1, d2, d3, d4] => { results := [.lit (.bool false)], args := [d1, d2, d3, d4] }
  | _ => none }
def SplicePutsWrongFalsely : Prop := splicePutsRow.holds Tryd.pinned (OpenSpec.ofChange splicePutsWrong)

/-- 'hurdlelaw22.SplicePieces': WHATEVER THE INPUT: true; the input reads as it did. -/
def splicePiecesSpec : ChangeSpec := { name := "splicePieces", fn := fun _ => fun
  | [d1, d2] => { results := [.lit (.bool true)], args := [d1, d2] }
  | _ => none }
def splicePiecesRow : OpenClaim := { program := "ytnlhnffijidioaadoor", sum := "a1055e38143efbc1ae33dd83f136e5c00522b1b1694b41f822c501241583cae4", func := "hurdle/hurdlelaw22.SplicePieces", spec := "splicePieces", unfollowed := true, recurses := true, named := ["hurdle/ins.shapes"], apart := false, laid := [("hurdle/ins.shapes", laid_hurdle_ins_shapes)] }
def SplicePiecesSaid : Prop := splicePiecesRow.holds Tryd.pinned (OpenSpec.ofChange splicePiecesSpec)

/-- ITS FALSE NEIGHBOUR: 'it returns false'. Refute it at one input. -/
def splicePiecesWrong : ChangeSpec := { name := "splicePieces", fn := fun _ => fun
  | [d1, d2] => { results := [.lit (.bool false)], args := [d1, d2] }
  | _ => none }
def SplicePiecesWrongFalsely : Prop := splicePiecesRow.holds Tryd.pinned (OpenSpec.ofChange splicePiecesWrong)

/-- 'hurdlelaw22.SpliceSound': WHATEVER THE INPUT: true; the input reads as it did. -/
def spliceSoundSpec : ChangeSpec := { name := "spliceSound", fn := fun _ => fun
  | [d1, d2, d3, d4] => { results := [.lit (.bool true)], args := [d1, d2, d3, d4] }
  | _ => none }
def spliceSoundRow : OpenClaim := { program := "ytnlhnffijidioaadoor", sum := "a1055e38143efbc1ae33dd83f136e5c00522b1b1694b41f822c501241583cae4", func := "hurdle/hurdlelaw22.SpliceSound", spec := "spliceSound", unfollowed := true, recurses := true, named := ["hurdle/ins.shapes"], apart := false, laid := [("hurdle/ins.shapes", laid_hurdle_ins_shapes)] }
def SpliceSoundSaid : Prop := spliceSoundRow.holds Tryd.pinned (OpenSpec.ofChange spliceSoundSpec)

/-- ITS FALSE NEIGHBOUR: 'it returns false'. Refute it at one input. -/
def spliceSoundWrong : ChangeSpec := { name := "spliceSound", fn := fun _ => fun
  | [d1, d2, d3, d4] => { results := [.lit (.bool false)], args := [d1, d2, d3, d4] }
  | _ => none }
def SpliceSoundWrongFalsely : Prop := spliceSoundRow.holds Tryd.pinned (OpenSpec.ofChange spliceSoundWrong)

/-- 'hurdlelaw22.SpliceSelf': WHATEVER THE INPUT: true; the input reads as it did. -/
def spliceSelfSpec : ChangeSpec := { name := "spliceSelf", fn := fun _ => fun
  | [d1, d2, d3, d4] => { results := [.lit (.bool true)], args := [d1, d2, d3, d4] }
  | _ => none }
def spliceSelfRow : OpenClaim := { program := "ytnlhnffijidioaadoor", sum := "a1055e38143efbc1ae33dd83f136e5c00522b1b1694b41f822c501241583cae4", func := "hurdle/hurdlelaw22.SpliceSelf", spec := "spliceSelf", unfollowed := true, recurses := true, named := ["hurdle/ins.shapes"], apart := false, laid := [("hurdle/ins.shapes", laid_hurdle_ins_shapes)] }
def SpliceSelfSaid : Prop := spliceSelfRow.holds Tryd.pinned (OpenSpec.ofChange spliceSelfSpec)

/-- ITS FALSE NEIGHBOUR: 'it returns false'. Refute it at one input. -/
def spliceSelfWrong : ChangeSpec := { name := "spliceSelf", fn := fun _ => fun
  | [d1, d2, d3, d4] => { results := [.lit (.bool false)], args := [d1, d2, d3, d4] }
  | _ => none }
def SpliceSelfWrongFalsely : Prop := spliceSelfRow.holds Tryd.pinned (OpenSpec.ofChange spliceSelfWrong)

/-- 'hurdlelaw22.SpliceRows': WHATEVER THE INPUT: true; the input reads as it did. -/
def spliceRowsSpec : ChangeSpec := { name := "spliceRows", fn := fun _ => fun
  | [d1, d2] => { results := [.lit (.bool true)], args := [d1, d2] }
  | _ => none }
def spliceRowsRow : OpenClaim := { program := "ytnlhnffijidioaadoor", sum := "a1055e38143efbc1ae33dd83f136e5c00522b1b1694b41f822c501241583cae4", func := "hurdle/hurdlelaw22.SpliceRows", spec := "spliceRows", unfollowed := true, recurses := true, named := ["hurdle/ins.shapes"], apart := false, laid := [("hurdle/ins.shapes", laid_hurdle_ins_shapes)] }
def SpliceRowsSaid : Prop := spliceRowsRow.holds Tryd.pinned (OpenSpec.ofChange spliceRowsSpec)

/-- ITS FALSE NEIGHBOUR: 'it returns false'. Refute it at one input. -/
def spliceRowsWrong : ChangeSpec := { name := "spliceRows", fn := fun _ => fun
  | [d1, d2] => { results := [.lit (.bool false)], args := [d1, d2] }
  | _ => none }
def SpliceRowsWrongFalsely : Prop := spliceRowsRow.holds Tryd.pinned (OpenSpec.ofChange spliceRowsWrong)

/-- 'hurdlelaw07.LiveTells': WHATEVER THE INPUT: true; the input reads as it did. -/
def liveTellsSpec : ChangeSpec := { name := "liveTells", fn := fun _ => fun
  | [d] => { results := [.lit (.bool true)], args := [d] }
  | _ => none }
def liveTellsRow : OpenClaim := { program := "ytnlhnffijidioaadoor", sum := "a1055e38143efbc1ae33dd83f136e5c00522b1b1694b41f822c501241583cae4", func := "hurdle/hurdlelaw07.LiveTells", spec := "liveTells", unfollowed := true, recurses := true, named := ["hurdle/ins.shapes"], apart := false, laid := [("hurdle/ins.shapes", laid_hurdle_ins_shapes)] }
def LiveTellsSaid : Prop := liveTellsRow.holds Tryd.pinned (OpenSpec.ofChange liveTellsSpec)

/-- ITS FALSE NEIGHBOUR: 'it returns false'. Refute it at one input. -/
def liveTellsWrong : ChangeSpec := { name := "liveTells", fn := fun _ => fun
  | [d] => { results := [.lit (.bool false)], args := [d] }
  | _ => none }
def LiveTellsWrongFalsely : Prop := liveTellsRow.holds Tryd.pinned (OpenSpec.ofChange liveTellsWrong)

/-- 'hurdlelaw07.LivePlaces': WHATEVER THE INPUT: true; the input reads as it did. -/
def livePlacesSpec : ChangeSpec := { name := "livePlaces", fn := fun _ => fun
  | [d1, d2] => { results := [.lit (.bool true)], args := [d1, d2] }
  | _ => none }
def livePlacesRow : OpenClaim := { program := "ytnlhnffijidioaadoor", sum := "a1055e38143efbc1ae33dd83f136e5c00522b1b1694b41f822c501241583cae4", func := "hurdle/hurdlelaw07.LivePlaces", spec := "livePlaces", unfollowed := true, recurses := true, named := ["hurdle/ins.shapes"], apart := false, laid := [("hurdle/ins.shapes", laid_hurdle_ins_shapes)] }
def LivePlacesSaid : Prop := livePlacesRow.holds Tryd.pinned (OpenSpec.ofChange livePlacesSpec)

/-- ITS FALSE NEIGHBOUR: 'it returns false'. Refute it at one input. -/
def livePlacesWrong : ChangeSpec := { name := "livePlaces", fn := fun _ => fun
  | [d1, d2] => { results := [.lit (.bool false)], args := [d1, d2] }
  | _ => none }
def LivePlacesWrongFalsely : Prop := livePlacesRow.holds Tryd.pinned (OpenSpec.ofChange livePlacesWrong)

/-- 'hurdlelaw07.LiveRuns': WHATEVER THE INPUT: true; the input reads as it did. -/
def liveRunsSpec : ChangeSpec := { name := "liveRuns", fn := fun _ => fun
  | [d1, d2, d3, d4, d5] => { results := [.lit (.bool true)], args := [d1, d2, d3, d4, d5] }
  | _ => none }
def liveRunsRow : OpenClaim := { program := "ytnlhnffijidioaadoor", sum := "a1055e38143efbc1ae33dd83f136e5c00522b1b1694b41f822c501241583cae4", func := "hurdle/hurdlelaw07.LiveRuns", spec := "liveRuns", unfollowed := true, recurses := true, named := ["hurdle/ins.shapes"], apart := false, laid := [("hurdle/ins.shapes", laid_hurdle_ins_shapes)] }
def LiveRunsSaid : Prop := liveRunsRow.holds Tryd.pinned (OpenSpec.ofChange liveRunsSpec)

/-- ITS FALSE NEIGHBOUR: 'it returns false'. Refute it at one input. -/
def liveRunsWrong : ChangeSpec := { name := "liveRuns", fn := fun _ => fun
  | [d1, d2, d3, d4, d5] => { results := [.lit (.bool false)], args := [d1, d2, d3, d4, d5] }
  | _ => none }
def LiveRunsWrongFalsely : Prop := liveRunsRow.holds Tryd.pinned (OpenSpec.ofChange liveRunsWrong)

/-- 'hurdlelaw07.LiveLast': WHATEVER THE INPUT: true; the input reads as it did. -/
def liveLastSpec : ChangeSpec := { name := "liveLast", fn := fun _ => fun
  | [d] => { results := [.lit (.bool true)], args := [d] }
  | _ => none }
def liveLastRow : OpenClaim := { program := "ytnlhnffijidioaadoor", sum := "a1055e38143efbc1ae33dd83f136e5c00522b1b1694b41f822c501241583cae4", func := "hurdle/hurdlelaw07.LiveLast", spec := "liveLast", unfollowed := true, recurses := true, named := ["hurdle/ins.shapes"], apart := false, laid := [("hurdle/ins.shapes", laid_hurdle_ins_shapes)] }
def LiveLastSaid : Prop := liveLastRow.holds Tryd.pinned (OpenSpec.ofChange liveLastSpec)

/-- ITS FALSE NEIGHBOUR: 'it returns false'. Refute it at one input. -/
def liveLastWrong : ChangeSpec := { name := "liveLast", fn := fun _ => fun
  | [d] => { results := [.lit (.bool false)], args := [d] }
  | _ => none }
def LiveLastWrongFalsely : Prop := liveLastRow.holds Tryd.pinned (OpenSpec.ofChange liveLastWrong)

/-- 'hurdlelaw07.LiveBranches': WHATEVER THE INPUT: true; the input reads as it did. -/
def liveBranchesSpec : ChangeSpec := { name := "liveBranches", fn := fun _ => fun
  | [d1, d2, d3] => { results := [.lit (.bool true)], args := [d1, d2, d3] }
  | _ => none }
def liveBranchesRow : OpenClaim := { program := "ytnlhnffijidioaadoor", sum := "a1055e38143efbc1ae33dd83f136e5c00522b1b1694b41f822c501241583cae4", func := "hurdle/hurdlelaw07.LiveBranches", spec := "liveBranches", unfollowed := true, recurses := true, named := ["hurdle/ins.shapes"], apart := false, laid := [("hurdle/ins.shapes", laid_hurdle_ins_shapes)] }
def LiveBranchesSaid : Prop := liveBranchesRow.holds Tryd.pinned (OpenSpec.ofChange liveBranchesSpec)

/-- ITS FALSE NEIGHBOUR: 'it returns false'. Refute it at one input. -/
def liveBranchesWrong : ChangeSpec := { name := "liveBranches", fn := fun _ => fun
  | [d1, d2, d3] => { results := [.lit (.bool false)], args := [d1, d2, d3] }
  | _ => none }
def LiveBranchesWrongFalsely : Prop := liveBranchesRow.holds Tryd.pinned (OpenSpec.ofChange liveBranchesWrong)

/-- 'hurdlelaw07.LiveSteps': WHATEVER THE INPUT: true; the input reads as it did. -/
def liveStepsSpec : ChangeSpec := { name := "liveSteps", fn := fun _ => fun
  | [d1, d2, d3, d4] => { results := [.lit (.bool true)], args := [d1, d2, d3, d4] }
  | _ => none }
def liveStepsRow : OpenClaim := { program := "ytnlhnffijidioaadoor", sum := "a1055e38143efbc1ae33dd83f136e5c00522b1b1694b41f822c501241583cae4", func := "hurdle/hurdlelaw07.LiveSteps", spec := "liveSteps", unfollowed := true, recurses := true, named := ["hurdle/ins.shapes"], apart := false, laid := [("hurdle/ins.shapes", laid_hurdle_ins_shapes)] }
def LiveStepsSaid : Prop := liveStepsRow.holds Tryd.pinned (OpenSpec.ofChange liveStepsSpec)

/-- ITS FALSE NEIGHBOUR: 'it returns false'. Refute it at one input. -/
def liveStepsWrong : ChangeSpec := { name := "liveSteps", fn := fun _ => fun
  | [d1, d2, d3, d4] => { results := [.lit (.bool false)], args := [d1, d2, d3, d4] }
  | _ => none }
def LiveStepsWrongFalsely : Prop := liveStepsRow.holds Tryd.pinned (OpenSpec.ofChange liveStepsWrong)

/- THE SECOND FORM. 'bulk': how many values and letters a reading holds, each counted each time it is reached (what is shared counts as often as it is met; a slice's spare places count too). A statement '..UptoSaid' is the law's where the arguments, and the package variables that the reading takes, are together of bulk at most 1048576: NARROWER than '..Said'. Prove '..Said' where nothing that the law and all that it calls make is longer than what came in: it says more and counts as full. Else prove '..UptoSaid'. A law counts once. -/
mutual
def uptoBulk {H : Type} : DataW H → Nat
  | .lit (.string bytes) => bytes.length + 1
  | .lit _ => 1
  | .nil => 1
  | .ptr d => uptoBulk d + 1
  | .slice elems spare => uptoBulkAll elems + uptoBulkAll spare + 1
  | .agg parts => uptoBulkAll parts + 1
  | .iface _ d => uptoBulk d + 1
  | .map entries => uptoBulkEntries entries + 1
  | .held _ => 1
def uptoBulkAll {H : Type} : List (DataW H) → Nat
  | [] => 0
  | d :: r => uptoBulk d + uptoBulkAll r
def uptoBulkEntries {H : Type} : List (Lit × DataW H) → Nat
  | [] => 0
  | x :: r => uptoBulkEntry x + uptoBulkEntries r
def uptoBulkEntry {H : Type} : Lit × DataW H → Nat
  | (.string bytes, d) => bytes.length + uptoBulk d + 1
  | (_, d) => uptoBulk d + 1
 end
def uptoSmall : (H : Type) → List (DataW H) → Bool := fun _ ds => decide (uptoBulkAll ds ≤ 1048576)
def OpenSpec.upto (s : _root_.Go.ChangeSpec) : _root_.Go.OpenSpec := { _root_.Go.OpenSpec.ofChange s with cond := some uptoSmall }

/-- 'hurdlelaw22.SplicePuts', WHERE WHAT IT READS IS OF BULK AT MOST 1048576: true; the input reads as it did. -/
def splicePutsUptoRow : OpenClaim := { program := "ytnlhnffijidioaadoor", sum := "a1055e38143efbc1ae33dd83f136e5c00522b1b1694b41f822c501241583cae4", func := "hurdle/hurdlelaw22.SplicePuts", spec := "splicePuts", unfollowed := true, recurses := true, named := ["hurdle/ins.shapes"], apart := false, laid := [("hurdle/ins.shapes", laid_hurdle_ins_shapes)], narrowed := true }
def SplicePutsUptoSaid : Prop := splicePutsUptoRow.holds Tryd.pinned (OpenSpec.upto splicePutsSpec)

/-- 'hurdlelaw22.SplicePieces', WHERE WHAT IT READS IS OF BULK AT MOST 1048576: true; the input reads as it did. -/
def splicePiecesUptoRow : OpenClaim := { program := "ytnlhnffijidioaadoor", sum := "a1055e38143efbc1ae33dd83f136e5c00522b1b1694b41f822c501241583cae4", func := "hurdle/hurdlelaw22.SplicePieces", spec := "splicePieces", unfollowed := true, recurses := true, named := ["hurdle/ins.shapes"], apart := false, laid := [("hurdle/ins.shapes", laid_hurdle_ins_shapes)], narrowed := true }
def SplicePiecesUptoSaid : Prop := splicePiecesUptoRow.holds Tryd.pinned (OpenSpec.upto splicePiecesSpec)

/-- 'hurdlelaw22.SpliceSound', WHERE WHAT IT READS IS OF BULK AT MOST 1048576: true; the input reads as it did. -/
def spliceSoundUptoRow : OpenClaim := { program := "ytnlhnffijidioaadoor", sum := "a1055e38143efbc1ae33dd83f136e5c00522b1b1694b41f822c501241583cae4", func := "hurdle/hurdlelaw22.SpliceSound", spec := "spliceSound", unfollowed := true, recurses := true, named := ["hurdle/ins.shapes"], apart := false, laid := [("hurdle/ins.shapes", laid_hurdle_ins_shapes)], narrowed := true }
def SpliceSoundUptoSaid : Prop := spliceSoundUptoRow.holds Tryd.pinned (OpenSpec.upto spliceSoundSpec)

/-- 'hurdlelaw22.SpliceSelf', WHERE WHAT IT READS IS OF BULK AT MOST 1048576: true; the input reads as it did. -/
def spliceSelfUptoRow : OpenClaim := { program := "ytnlhnffijidioaadoor", sum := "a1055e38143efbc1ae33dd83f136e5c00522b1b1694b41f822c501241583cae4", func := "hurdle/hurdlelaw22.SpliceSelf", spec := "spliceSelf", unfollowed := true, recurses := true, named := ["hurdle/ins.shapes"], apart := false, laid := [("hurdle/ins.shapes", laid_hurdle_ins_shapes)], narrowed := true }
def SpliceSelfUptoSaid : Prop := spliceSelfUptoRow.holds Tryd.pinned (OpenSpec.upto spliceSelfSpec)

/-- 'hurdlelaw22.SpliceRows', WHERE WHAT IT READS IS OF BULK AT MOST 1048576: true; the input reads as it did. -/
def spliceRowsUptoRow : OpenClaim := { program := "ytnlhnffijidioaadoor", sum := "a1055e38143efbc1ae33dd83f136e5c00522b1b1694b41f822c501241583cae4", func := "hurdle/hurdlelaw22.SpliceRows", spec := "spliceRows", unfollowed := true, recurses := true, named := ["hurdle/ins.shapes"], apart := false, laid := [("hurdle/ins.shapes", laid_hurdle_ins_shapes)], narrowed := true }
def SpliceRowsUptoSaid : Prop := spliceRowsUptoRow.holds Tryd.pinned (OpenSpec.upto spliceRowsSpec)

/-- 'hurdlelaw07.LiveTells', WHERE WHAT IT READS IS OF BULK AT MOST 1048576: true; the input reads as it did. -/
def liveTellsUptoRow : OpenClaim := { program := "ytnlhnffijidioaadoor", sum := "a1055e38143efbc1ae33dd83f136e5c00522b1b1694b41f822c501241583cae4", func := "hurdle/hurdlelaw07.LiveTells", spec := "liveTells", unfollowed := true, recurses := true, named := ["hurdle/ins.shapes"], apart := false, laid := [("hurdle/ins.shapes", laid_hurdle_ins_shapes)], narrowed := true }
def LiveTellsUptoSaid : Prop := liveTellsUptoRow.holds Tryd.pinned (OpenSpec.upto liveTellsSpec)

/-- 'hurdlelaw07.LivePlaces', WHERE WHAT IT READS IS OF BULK AT MOST 1048576: true; the input reads as it did. -/
def livePlacesUptoRow : OpenClaim := { program := "ytnlhnffijidioaadoor", sum := "a1055e38143efbc1ae33dd83f136e5c00522b1b1694b41f822c501241583cae4", func := "hurdle/hurdlelaw07.LivePlaces", spec := "livePlaces", unfollowed := true, recurses := true, named := ["hurdle/ins.shapes"], apart := false, laid := [("hurdle/ins.shapes", laid_hurdle_ins_shapes)], narrowed := true }
def LivePlacesUptoSaid : Prop := livePlacesUptoRow.holds Tryd.pinned (OpenSpec.upto livePlacesSpec)

/-- 'hurdlelaw07.LiveRuns', WHERE WHAT IT READS IS OF BULK AT MOST 1048576: true; the input reads as it did. -/
def liveRunsUptoRow : OpenClaim := { program := "ytnlhnffijidioaadoor", sum := "a1055e38143efbc1ae33dd83f136e5c00522b1b1694b41f822c501241583cae4", func := "hurdle/hurdlelaw07.LiveRuns", spec := "liveRuns", unfollowed := true, recurses := true, named := ["hurdle/ins.shapes"], apart := false, laid := [("hurdle/ins.shapes", laid_hurdle_ins_shapes)], narrowed := true }
def LiveRunsUptoSaid : Prop := liveRunsUptoRow.holds Tryd.pinned (OpenSpec.upto liveRunsSpec)

/-- 'hurdlelaw07.LiveLast', WHERE WHAT IT READS IS OF BULK AT MOST 1048576: true; the input reads as it did. -/
def liveLastUptoRow : OpenClaim := { program := "ytnlhnffijidioaadoor", sum := "a1055e38143efbc1ae33dd83f136e5c00522b1b1694b41f822c501241583cae4", func := "hurdle/hurdlelaw07.LiveLast", spec := "liveLast", unfollowed := true, recurses := true, named := ["hurdle/ins.shapes"], apart := false, laid := [("hurdle/ins.shapes", laid_hurdle_ins_shapes)], narrowed := true }
def LiveLastUptoSaid : Prop := liveLastUptoRow.holds Tryd.pinned (OpenSpec.upto liveLastSpec)

/-- 'hurdlelaw07.LiveBranches', WHERE WHAT IT READS IS OF BULK AT MOST 1048576: true; the input reads as it did. -/
def liveBranchesUptoRow : OpenClaim := { program := "ytnlhnffijidioaadoor", sum := "a1055e38143efbc1ae33dd83f136e5c00522b1b1694b41f822c501241583cae4", func := "hurdle/hurdlelaw07.LiveBranches", spec := "liveBranches", unfollowed := true, recurses := true, named := ["hurdle/ins.shapes"], apart := false, laid := [("hurdle/ins.shapes", laid_hurdle_ins_shapes)], narrowed := true }
def LiveBranchesUptoSaid : Prop := liveBranchesUptoRow.holds Tryd.pinned (OpenSpec.upto liveBranchesSpec)

/-- 'hurdlelaw07.LiveSteps', WHERE WHAT IT READS IS OF BULK AT MOST 1048576: true; the input reads as it did. -/
def liveStepsUptoRow : OpenClaim := { program := "ytnlhnffijidioaadoor", sum := "a1055e38143efbc1ae33dd83f136e5c00522b1b1694b41f822c501241583cae4", func := "hurdle/hurdlelaw07.LiveSteps", spec := "liveSteps", unfollowed := true, recurses := true, named := ["hurdle/ins.shapes"], apart := false, laid := [("hurdle/ins.shapes", laid_hurdle_ins_shapes)], narrowed := true }
def LiveStepsUptoSaid : Prop := liveStepsUptoRow.holds Tryd.pinned (OpenSpec.upto liveStepsSpec)

end Rows
end Go.Proofs.YtnlhnffijidioaaDoor
