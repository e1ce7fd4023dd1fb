/-
  NARROWER THAN 'FOR EVERY INPUT', by the rows' own cells (each row's printed sentence says how): CompileMeans: laid · CompileShort: laid · CompileSteps: laid · CompileLearns: laid · TopEdges: laid · TopMeans: laid.
  DERIVED. THE GIVEN ROWS OF THIS SEAT. 6 by the template 'for every input the law returns true; each argument reads behind the call as it read before'; 0 by the template 'total and deterministic' (their statements: YtbkhoemaobbplaaGreatDoorTotals.lean).
  GIVEN WITH THE SEED: the statements are not yours to turn. If you find one false, say at which input.
  Laid BY PROGRAM, IN A SANDBOX (cutbox-rows.mjs): the forced cells as the released guide's own fill.sh prints them over the translation 0b9606b6734483ba… (all of the seat's roots in one cut). By AI agents, Wed Nov 11 2026. No macro, syntax, notation, axiom, sorry.
-/
import Derived.Test.YtbkhoemaobbplaaGreatDoorChecked
import GoSem.Claim
import GoSem.ClaimJoined
import GoSem.ClaimMapViews
import Derived.JoinedTies
import Derived.KernelRfl
namespace Go.Proofs.YtbkhoemaobbplaaGreatDoor
/- THE CELL 'sum', in the pinned program and in every row, IS THE sha256 OF THE DUMP (.gsa) THAT YtbkhoemaobbplaaGreatDoorProg.lean LOADS. Nothing in Lean hashes anything: it is a label: what it is worth is what the hold of that sum in a sandbox is worth. -/
noncomputable def Tryz.pinned : Pinned := { name := "ytbkhoemaobbplaagreatdoor", sum := "0b9606b6734483ba4f633a8acf648952eb0cb64e0a9004542061f844f0d2ba70", checked := Tryz.checked }
namespace Rows
def none {H : Type} : Left H := { results := [], args := [] }

/- WHAT THE LISTED PACKAGE-LEVEL VARIABLES READ AS WHEN THE CALL BEGINS. Each datum BY PROGRAM (the guide's laid-datum.mjs) off the statement by which the dump's own 'gosem.cut.vars' lays the variable. In a bare row this is a premise. The card (YtbkhoemaobbplaaGreatDoorCards.lean) ties it to the program's text. -/
def laid_hurdle_ins_shapes {H : Type} : DataW H := .agg [.agg [.lit (.int .i64 0), .lit (.string [108, 100]), .lit (.bool true), .lit (.bool false)], .agg [.lit (.int .i64 1), .lit (.string [108, 100, 120]), .lit (.bool true), .lit (.bool false)], .agg [.lit (.int .i64 2), .lit (.string [115, 116]), .lit (.bool true), .lit (.bool false)], .agg [.lit (.int .i64 3), .lit (.string [115, 116, 120]), .lit (.bool true), .lit (.bool false)], .agg [.lit (.int .i64 4), .lit (.string [97, 100, 100]), .lit (.bool true), .lit (.bool false)], .agg [.lit (.int .i64 20), .lit (.string [115, 117, 98]), .lit (.bool true), .lit (.bool false)], .agg [.lit (.int .i64 36), .lit (.string [109, 117, 108]), .lit (.bool true), .lit (.bool false)], .agg [.lit (.int .i64 52), .lit (.string [100, 105, 118]), .lit (.bool true), .lit (.bool false)], .agg [.lit (.int .i64 68), .lit (.string [111, 114]), .lit (.bool true), .lit (.bool false)], .agg [.lit (.int .i64 84), .lit (.string [97, 110, 100]), .lit (.bool true), .lit (.bool false)], .agg [.lit (.int .i64 100), .lit (.string [108, 115, 104]), .lit (.bool true), .lit (.bool false)], .agg [.lit (.int .i64 116), .lit (.string [114, 115, 104]), .lit (.bool true), .lit (.bool false)], .agg [.lit (.int .i64 164), .lit (.string [120, 111, 114]), .lit (.bool true), .lit (.bool false)], .agg [.lit (.int .i64 12), .lit (.string [97, 100, 100, 120]), .lit (.bool false), .lit (.bool false)], .agg [.lit (.int .i64 28), .lit (.string [115, 117, 98, 120]), .lit (.bool false), .lit (.bool false)], .agg [.lit (.int .i64 44), .lit (.string [109, 117, 108, 120]), .lit (.bool false), .lit (.bool false)], .agg [.lit (.int .i64 60), .lit (.string [100, 105, 118, 120]), .lit (.bool false), .lit (.bool false)], .agg [.lit (.int .i64 76), .lit (.string [111, 114, 120]), .lit (.bool false), .lit (.bool false)], .agg [.lit (.int .i64 92), .lit (.string [97, 110, 100, 120]), .lit (.bool false), .lit (.bool false)], .agg [.lit (.int .i64 108), .lit (.string [108, 115, 104, 120]), .lit (.bool false), .lit (.bool false)], .agg [.lit (.int .i64 124), .lit (.string [114, 115, 104, 120]), .lit (.bool false), .lit (.bool false)], .agg [.lit (.int .i64 172), .lit (.string [120, 111, 114, 120]), .lit (.bool false), .lit (.bool false)], .agg [.lit (.int .i64 132), .lit (.string [110, 101, 103]), .lit (.bool false), .lit (.bool false)], .agg [.lit (.int .i64 7), .lit (.string [116, 97, 120]), .lit (.bool false), .lit (.bool false)], .agg [.lit (.int .i64 135), .lit (.string [116, 120, 97]), .lit (.bool false), .lit (.bool false)], .agg [.lit (.int .i64 32), .lit (.string [97, 98, 115]), .lit (.bool true), .lit (.bool false)], .agg [.lit (.int .i64 96), .lit (.string [109, 101, 109]), .lit (.bool true), .lit (.bool false)], .agg [.lit (.int .i64 97), .lit (.string [109, 101, 109, 120]), .lit (.bool true), .lit (.bool false)], .agg [.lit (.int .i64 5), .lit (.string [106, 97]), .lit (.bool true), .lit (.bool false)], .agg [.lit (.int .i64 6), .lit (.string [114, 101, 116]), .lit (.bool true), .lit (.bool false)], .agg [.lit (.int .i64 22), .lit (.string [114, 101, 116, 97]), .lit (.bool false), .lit (.bool false)], .agg [.lit (.int .i64 21), .lit (.string [106, 101, 113]), .lit (.bool true), .lit (.bool true)], .agg [.lit (.int .i64 37), .lit (.string [106, 103, 116]), .lit (.bool true), .lit (.bool true)], .agg [.lit (.int .i64 53), .lit (.string [106, 103, 101]), .lit (.bool true), .lit (.bool true)], .agg [.lit (.int .i64 69), .lit (.string [106, 115, 101, 116]), .lit (.bool true), .lit (.bool true)], .agg [.lit (.int .i64 29), .lit (.string [106, 101, 113, 120]), .lit (.bool false), .lit (.bool true)], .agg [.lit (.int .i64 45), .lit (.string [106, 103, 116, 120]), .lit (.bool false), .lit (.bool true)], .agg [.lit (.int .i64 61), .lit (.string [106, 103, 101, 120]), .lit (.bool false), .lit (.bool true)], .agg [.lit (.int .i64 77), .lit (.string [106, 115, 101, 116, 120]), .lit (.bool false), .lit (.bool true)]]

/-- 'hurdlelaw25.CompileMeans': WHATEVER THE INPUT: true; the input reads as it did. -/
def compileMeansSpec : ChangeSpec := { name := "compileMeans", fn := fun _ => fun
  | [d1, d2, d3, d4] => { results := [.lit (.bool true)], args := [d1, d2, d3, d4] }
  | _ => none }
def compileMeansRow : OpenClaim := { program := "ytbkhoemaobbplaagreatdoor", sum := "0b9606b6734483ba4f633a8acf648952eb0cb64e0a9004542061f844f0d2ba70", func := "hurdle/hurdlelaw25.CompileMeans", spec := "compileMeans", unfollowed := true, recurses := true, named := ["hurdle/ins.shapes"], plainKeys := false, apart := false, laid := [("hurdle/ins.shapes", laid_hurdle_ins_shapes)] }
def CompileMeansSaid : Prop := compileMeansRow.holds Tryz.pinned (OpenSpec.ofChange compileMeansSpec)

/-- ITS FALSE NEIGHBOUR: 'it returns false'. Refute it at one input. -/
def compileMeansWrong : ChangeSpec := { name := "compileMeans", fn := fun _ => fun
  | [d1, d2, d3, d4] => { results := [.lit (.bool false)], args := [d1, d2, d3, d4] }
  | _ => none }
def CompileMeansWrongFalsely : Prop := compileMeansRow.holds Tryz.pinned (OpenSpec.ofChange compileMeansWrong)

/-- 'hurdlelaw25.CompileShort': WHATEVER THE INPUT: true; the input reads as it did. -/
def compileShortSpec : ChangeSpec := { name := "compileShort", fn := fun _ => fun
  | [d1, d2, d3, d4] => { results := [.lit (.bool true)], args := [d1, d2, d3, d4] }
  | _ => none }
def compileShortRow : OpenClaim := { program := "ytbkhoemaobbplaagreatdoor", sum := "0b9606b6734483ba4f633a8acf648952eb0cb64e0a9004542061f844f0d2ba70", func := "hurdle/hurdlelaw25.CompileShort", spec := "compileShort", unfollowed := true, recurses := true, named := ["hurdle/ins.shapes"], plainKeys := false, apart := false, laid := [("hurdle/ins.shapes", laid_hurdle_ins_shapes)] }
def CompileShortSaid : Prop := compileShortRow.holds Tryz.pinned (OpenSpec.ofChange compileShortSpec)

/-- ITS FALSE NEIGHBOUR: 'it returns false'. Refute it at one input. -/
def compileShortWrong : ChangeSpec := { name := "compileShort", fn := fun _ => fun
  | [d1, d2, d3, d4] => { results := [.lit (.bool false)], args := [d1, d2, d3, d4] }
  | _ => none }
def CompileShortWrongFalsely : Prop := compileShortRow.holds Tryz.pinned (OpenSpec.ofChange compileShortWrong)

/-- 'hurdlelaw25.CompileSteps': WHATEVER THE INPUT: true; the input reads as it did. -/
def compileStepsSpec : ChangeSpec := { name := "compileSteps", fn := fun _ => fun
  | [d1, d2, d3] => { results := [.lit (.bool true)], args := [d1, d2, d3] }
  | _ => none }
def compileStepsRow : OpenClaim := { program := "ytbkhoemaobbplaagreatdoor", sum := "0b9606b6734483ba4f633a8acf648952eb0cb64e0a9004542061f844f0d2ba70", func := "hurdle/hurdlelaw25.CompileSteps", spec := "compileSteps", unfollowed := true, recurses := true, named := ["hurdle/ins.shapes"], plainKeys := false, apart := false, laid := [("hurdle/ins.shapes", laid_hurdle_ins_shapes)] }
def CompileStepsSaid : Prop := compileStepsRow.holds Tryz.pinned (OpenSpec.ofChange compileStepsSpec)

/-- ITS FALSE NEIGHBOUR: 'it returns false'. Refute it at one input. -/
def compileStepsWrong : ChangeSpec := { name := "compileSteps", fn := fun _ => fun
  | [d1, d2, d3] => { results := [.lit (.bool false)], args := [d1, d2, d3] }
  | _ => none }
def CompileStepsWrongFalsely : Prop := compileStepsRow.holds Tryz.pinned (OpenSpec.ofChange compileStepsWrong)

/-- 'hurdlelaw25.CompileLearns': WHATEVER THE INPUT: true; the input reads as it did. -/
def compileLearnsSpec : ChangeSpec := { name := "compileLearns", fn := fun _ => fun
  | [d1, d2, d3] => { results := [.lit (.bool true)], args := [d1, d2, d3] }
  | _ => none }
def compileLearnsRow : OpenClaim := { program := "ytbkhoemaobbplaagreatdoor", sum := "0b9606b6734483ba4f633a8acf648952eb0cb64e0a9004542061f844f0d2ba70", func := "hurdle/hurdlelaw25.CompileLearns", spec := "compileLearns", unfollowed := true, recurses := true, named := ["hurdle/ins.shapes"], plainKeys := false, apart := false, laid := [("hurdle/ins.shapes", laid_hurdle_ins_shapes)] }
def CompileLearnsSaid : Prop := compileLearnsRow.holds Tryz.pinned (OpenSpec.ofChange compileLearnsSpec)

/-- ITS FALSE NEIGHBOUR: 'it returns false'. Refute it at one input. -/
def compileLearnsWrong : ChangeSpec := { name := "compileLearns", fn := fun _ => fun
  | [d1, d2, d3] => { results := [.lit (.bool false)], args := [d1, d2, d3] }
  | _ => none }
def CompileLearnsWrongFalsely : Prop := compileLearnsRow.holds Tryz.pinned (OpenSpec.ofChange compileLearnsWrong)

/-- 'hurdletop.TopEdges': WHATEVER THE INPUT: true; the input reads as it did. -/
def topEdgesSpec : ChangeSpec := { name := "topEdges", fn := fun _ => fun
  | [d1, d2, d3, d4] => { results := [.lit (.bool true)], args := [d1, d2, d3, d4] }
  | _ => none }
def topEdgesRow : OpenClaim := { program := "ytbkhoemaobbplaagreatdoor", sum := "0b9606b6734483ba4f633a8acf648952eb0cb64e0a9004542061f844f0d2ba70", func := "hurdle/hurdletop.TopEdges", spec := "topEdges", unfollowed := true, recurses := true, named := ["hurdle/ins.shapes"], plainKeys := false, apart := false, laid := [("hurdle/ins.shapes", laid_hurdle_ins_shapes)] }
def TopEdgesSaid : Prop := topEdgesRow.holds Tryz.pinned (OpenSpec.ofChange topEdgesSpec)

/-- ITS FALSE NEIGHBOUR: 'it returns false'. Refute it at one input. -/
def topEdgesWrong : ChangeSpec := { name := "topEdges", fn := fun _ => fun
  | [d1, d2, d3, d4] => { results := [.lit (.bool false)], args := [d1, d2, d3, d4] }
  | _ => none }
def TopEdgesWrongFalsely : Prop := topEdgesRow.holds Tryz.pinned (OpenSpec.ofChange topEdgesWrong)

/-- 'hurdletop.TopMeans': WHATEVER THE INPUT: true; the input reads as it did. -/
def topMeansSpec : ChangeSpec := { name := "topMeans", fn := fun _ => fun
  | [d1, d2, d3, d4] => { results := [.lit (.bool true)], args := [d1, d2, d3, d4] }
  | _ => none }
def topMeansRow : OpenClaim := { program := "ytbkhoemaobbplaagreatdoor", sum := "0b9606b6734483ba4f633a8acf648952eb0cb64e0a9004542061f844f0d2ba70", func := "hurdle/hurdletop.TopMeans", spec := "topMeans", unfollowed := true, recurses := true, named := ["hurdle/ins.shapes"], plainKeys := false, apart := false, laid := [("hurdle/ins.shapes", laid_hurdle_ins_shapes)] }
def TopMeansSaid : Prop := topMeansRow.holds Tryz.pinned (OpenSpec.ofChange topMeansSpec)

/-- ITS FALSE NEIGHBOUR: 'it returns false'. Refute it at one input. -/
def topMeansWrong : ChangeSpec := { name := "topMeans", fn := fun _ => fun
  | [d1, d2, d3, d4] => { results := [.lit (.bool false)], args := [d1, d2, d3, d4] }
  | _ => none }
def TopMeansWrongFalsely : Prop := topMeansRow.holds Tryz.pinned (OpenSpec.ofChange topMeansWrong)

/- THE SECOND FORM. 'bulk': how many values and letters a reading holds, each counted each time it is reached (what is shared counts as often as it is met; a slice's spare places count too). A statement '..UptoSaid' is the law's where the arguments, and the package variables that the reading takes, are together of bulk at most 1048576: NARROWER than '..Said'. Prove '..Said' where nothing that the law and all that it calls make is longer than what came in: it says more and counts as full. Else prove '..UptoSaid'. A law counts once. -/
mutual
def uptoBulk {H : Type} : DataW H → Nat
  | .lit (.string bytes) => bytes.length + 1
  | .lit _ => 1
  | .nil => 1
  | .ptr d => uptoBulk d + 1
  | .slice elems spare => uptoBulkAll elems + uptoBulkAll spare + 1
  | .agg parts => uptoBulkAll parts + 1
  | .iface _ d => uptoBulk d + 1
  | .map entries => uptoBulkEntries entries + 1
  | .held _ => 1
def uptoBulkAll {H : Type} : List (DataW H) → Nat
  | [] => 0
  | d :: r => uptoBulk d + uptoBulkAll r
def uptoBulkEntries {H : Type} : List (Lit × DataW H) → Nat
  | [] => 0
  | x :: r => uptoBulkEntry x + uptoBulkEntries r
def uptoBulkEntry {H : Type} : Lit × DataW H → Nat
  | (.string bytes, d) => bytes.length + uptoBulk d + 1
  | (_, d) => uptoBulk d + 1
 end
def uptoSmall : (H : Type) → List (DataW H) → Bool := fun _ ds => decide (uptoBulkAll ds ≤ 1048576)
def OpenSpec.upto (s : _root_.Go.ChangeSpec) : _root_.Go.OpenSpec := { _root_.Go.OpenSpec.ofChange s with cond := some uptoSmall }

/-- 'hurdlelaw25.CompileMeans', WHERE WHAT IT READS IS OF BULK AT MOST 1048576: true; the input reads as it did. -/
def compileMeansUptoRow : OpenClaim := { program := "ytbkhoemaobbplaagreatdoor", sum := "0b9606b6734483ba4f633a8acf648952eb0cb64e0a9004542061f844f0d2ba70", func := "hurdle/hurdlelaw25.CompileMeans", spec := "compileMeans", unfollowed := true, recurses := true, named := ["hurdle/ins.shapes"], plainKeys := false, apart := false, laid := [("hurdle/ins.shapes", laid_hurdle_ins_shapes)], narrowed := true }
def CompileMeansUptoSaid : Prop := compileMeansUptoRow.holds Tryz.pinned (OpenSpec.upto compileMeansSpec)

/-- 'hurdlelaw25.CompileShort', WHERE WHAT IT READS IS OF BULK AT MOST 1048576: true; the input reads as it did. -/
def compileShortUptoRow : OpenClaim := { program := "ytbkhoemaobbplaagreatdoor", sum := "0b9606b6734483ba4f633a8acf648952eb0cb64e0a9004542061f844f0d2ba70", func := "hurdle/hurdlelaw25.CompileShort", spec := "compileShort", unfollowed := true, recurses := true, named := ["hurdle/ins.shapes"], plainKeys := false, apart := false, laid := [("hurdle/ins.shapes", laid_hurdle_ins_shapes)], narrowed := true }
def CompileShortUptoSaid : Prop := compileShortUptoRow.holds Tryz.pinned (OpenSpec.upto compileShortSpec)

/-- 'hurdlelaw25.CompileSteps', WHERE WHAT IT READS IS OF BULK AT MOST 1048576: true; the input reads as it did. -/
def compileStepsUptoRow : OpenClaim := { program := "ytbkhoemaobbplaagreatdoor", sum := "0b9606b6734483ba4f633a8acf648952eb0cb64e0a9004542061f844f0d2ba70", func := "hurdle/hurdlelaw25.CompileSteps", spec := "compileSteps", unfollowed := true, recurses := true, named := ["hurdle/ins.shapes"], plainKeys := false, apart := false, laid := [("hurdle/ins.shapes", laid_hurdle_ins_shapes)], narrowed := true }
def CompileStepsUptoSaid : Prop := compileStepsUptoRow.holds Tryz.pinned (OpenSpec.upto compileStepsSpec)

/-- 'hurdlelaw25.CompileLearns', WHERE WHAT IT READS IS OF BULK AT MOST 1048576: true; the input reads as it did. -/
def compileLearnsUptoRow : OpenClaim := { program := "ytbkhoemaobbplaagreatdoor", sum := "0b9606b6734483ba4f633a8acf648952eb0cb64e0a9004542061f844f0d2ba70", func := "hurdle/hurdlelaw25.CompileLearns", spec := "compileLearns", unfollowed := true, recurses := true, named := ["hurdle/ins.shapes"], plainKeys := false, apart := false, laid := [("hurdle/ins.shapes", laid_hurdle_ins_shapes)], narrowed := true }
def CompileLearnsUptoSaid : Prop := compileLearnsUptoRow.holds Tryz.pinned (OpenSpec.upto compileLearnsSpec)

/-- 'hurdletop.TopEdges', WHERE WHAT IT READS IS OF BULK AT MOST 1048576: true; the input reads as it did. -/
def topEdgesUptoRow : OpenClaim := { program := "ytbkhoemaobbplaagreatdoor", sum := "0b9606b6734483ba4f633a8acf648952eb0cb64e0a9004542061f844f0d2ba70", func := "hurdle/hurdletop.TopEdges", spec := "topEdges", unfollowed := true, recurses := true, named := ["hurdle/ins.shapes"], plainKeys := false, apart := false, laid := [("hurdle/ins.shapes", laid_hurdle_ins_shapes)], narrowed := true }
def TopEdgesUptoSaid : Prop := topEdgesUptoRow.holds Tryz.pinned (OpenSpec.upto topEdgesSpec)

/-- 'hurdletop.TopMeans', WHERE WHAT IT READS IS OF BULK AT MOST 1048576: true; the input reads as it did. -/
def topMeansUptoRow : OpenClaim := { program := "ytbkhoemaobbplaagreatdoor", sum := "0b9606b6734483ba4f633a8acf648952eb0cb64e0a9004542061f844f0d2ba70", func := "hurdle/hurdletop.TopMeans", spec := "topMeans", unfollowed := true, recurses := true, named := ["hurdle/ins.shapes"], plainKeys := false, apart := false, laid := [("hurdle/ins.shapes", laid_hurdle_ins_shapes)], narrowed := true }
def TopMeansUptoSaid : Prop := topMeansUptoRow.holds Tryz.pinned (OpenSpec.upto topMeansSpec)

end Rows
end Go.Proofs.YtbkhoemaobbplaaGreatDoor
