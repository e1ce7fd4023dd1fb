/-
  NARROWER THAN 'FOR EVERY INPUT', by the rows' own cells (each row's printed sentence says how): OptRows: laid · OptMeans: laid · OptStays: laid · OptLearns: laid · OptRounds: laid.
  DERIVED. THE GIVEN ROWS OF THIS SEAT. 5 by the template 'for every input the law returns true; each argument reads behind the call as it read before'; 0 by the template 'total and deterministic' (their statements: YtogjnjnabikdpaaGreatDoorTotals.lean).
  GIVEN WITH THE SEED: the statements are not yours to turn. If you find one false, say at which input.
  Laid BY PROGRAM, IN A SANDBOX (cutbox-rows.mjs): the forced cells as the released guide's own fill.sh prints them over the translation bef1cf4d3fa7187d… (all of the seat's roots in one cut). By AI agents, Wed Nov 11 2026. No macro, syntax, notation, axiom, sorry.
-/
import Derived.Test.YtogjnjnabikdpaaGreatDoorChecked
import GoSem.Claim
import GoSem.ClaimJoined
import GoSem.ClaimMapViews
import Derived.JoinedTies
import Derived.KernelRfl
namespace Go.Proofs.YtogjnjnabikdpaaGreatDoor
/- THE CELL 'sum', in the pinned program and in every row, IS THE sha256 OF THE DUMP (.gsa) THAT YtogjnjnabikdpaaGreatDoorProg.lean LOADS. Nothing in Lean hashes anything: it is a label: what it is worth is what the hold of that sum in a sandbox is worth. -/
noncomputable def Tryz.pinned : Pinned := { name := "ytogjnjnabikdpaagreatdoor", sum := "bef1cf4d3fa7187d5556fbd2bf47731be648b8908549588b9e2785f91498b17f", checked := Tryz.checked }
namespace Rows
def none {H : Type} : Left H := { results := [], args := [] }

/- WHAT THE LISTED PACKAGE-LEVEL VARIABLES READ AS WHEN THE CALL BEGINS. Each datum BY PROGRAM (the guide's laid-datum.mjs) off the statement by which the dump's own 'gosem.cut.vars' lays the variable. In a bare row this is a premise. The card (YtogjnjnabikdpaaGreatDoorCards.lean) ties it to the program's text. -/
def laid_hurdle_ins_shapes {H : Type} : DataW H := .agg [.agg [.lit (.int .i64 0), .lit (.string [108, 100]), .lit (.bool true), .lit (.bool false)], .agg [.lit (.int .i64 1), .lit (.string [108, 100, 120]), .lit (.bool true), .lit (.bool false)], .agg [.lit (.int .i64 2), .lit (.string [115, 116]), .lit (.bool true), .lit (.bool false)], .agg [.lit (.int .i64 3), .lit (.string [115, 116, 120]), .lit (.bool true), .lit (.bool false)], .agg [.lit (.int .i64 4), .lit (.string [97, 100, 100]), .lit (.bool true), .lit (.bool false)], .agg [.lit (.int .i64 20), .lit (.string [115, 117, 98]), .lit (.bool true), .lit (.bool false)], .agg [.lit (.int .i64 36), .lit (.string [109, 117, 108]), .lit (.bool true), .lit (.bool false)], .agg [.lit (.int .i64 52), .lit (.string [100, 105, 118]), .lit (.bool true), .lit (.bool false)], .agg [.lit (.int .i64 68), .lit (.string [111, 114]), .lit (.bool true), .lit (.bool false)], .agg [.lit (.int .i64 84), .lit (.string [97, 110, 100]), .lit (.bool true), .lit (.bool false)], .agg [.lit (.int .i64 100), .lit (.string [108, 115, 104]), .lit (.bool true), .lit (.bool false)], .agg [.lit (.int .i64 116), .lit (.string [114, 115, 104]), .lit (.bool true), .lit (.bool false)], .agg [.lit (.int .i64 164), .lit (.string [120, 111, 114]), .lit (.bool true), .lit (.bool false)], .agg [.lit (.int .i64 12), .lit (.string [97, 100, 100, 120]), .lit (.bool false), .lit (.bool false)], .agg [.lit (.int .i64 28), .lit (.string [115, 117, 98, 120]), .lit (.bool false), .lit (.bool false)], .agg [.lit (.int .i64 44), .lit (.string [109, 117, 108, 120]), .lit (.bool false), .lit (.bool false)], .agg [.lit (.int .i64 60), .lit (.string [100, 105, 118, 120]), .lit (.bool false), .lit (.bool false)], .agg [.lit (.int .i64 76), .lit (.string [111, 114, 120]), .lit (.bool false), .lit (.bool false)], .agg [.lit (.int .i64 92), .lit (.string [97, 110, 100, 120]), .lit (.bool false), .lit (.bool false)], .agg [.lit (.int .i64 108), .lit (.string [108, 115, 104, 120]), .lit (.bool false), .lit (.bool false)], .agg [.lit (.int .i64 124), .lit (.string [114, 115, 104, 120]), .lit (.bool false), .lit (.bool false)], .agg [.lit (.int .i64 172), .lit (.string [120, 111, 114, 120]), .lit (.bool false), .lit (.bool false)], .agg [.lit (.int .i64 132), .lit (.string [110, 101, 103]), .lit (.bool false), .lit (.bool false)], .agg [.lit (.int .i64 7), .lit (.string [116, 97, 120]), .lit (.bool false), .lit (.bool false)], .agg [.lit (.int .i64 135), .lit (.string [116, 120, 97]), .lit (.bool false), .lit (.bool false)], .agg [.lit (.int .i64 32), .lit (.string [97, 98, 115]), .lit (.bool true), .lit (.bool false)], .agg [.lit (.int .i64 96), .lit (.string [109, 101, 109]), .lit (.bool true), .lit (.bool false)], .agg [.lit (.int .i64 97), .lit (.string [109, 101, 109, 120]), .lit (.bool true), .lit (.bool false)], .agg [.lit (.int .i64 5), .lit (.string [106, 97]), .lit (.bool true), .lit (.bool false)], .agg [.lit (.int .i64 6), .lit (.string [114, 101, 116]), .lit (.bool true), .lit (.bool false)], .agg [.lit (.int .i64 22), .lit (.string [114, 101, 116, 97]), .lit (.bool false), .lit (.bool false)], .agg [.lit (.int .i64 21), .lit (.string [106, 101, 113]), .lit (.bool true), .lit (.bool true)], .agg [.lit (.int .i64 37), .lit (.string [106, 103, 116]), .lit (.bool true), .lit (.bool true)], .agg [.lit (.int .i64 53), .lit (.string [106, 103, 101]), .lit (.bool true), .lit (.bool true)], .agg [.lit (.int .i64 69), .lit (.string [106, 115, 101, 116]), .lit (.bool true), .lit (.bool true)], .agg [.lit (.int .i64 29), .lit (.string [106, 101, 113, 120]), .lit (.bool false), .lit (.bool true)], .agg [.lit (.int .i64 45), .lit (.string [106, 103, 116, 120]), .lit (.bool false), .lit (.bool true)], .agg [.lit (.int .i64 61), .lit (.string [106, 103, 101, 120]), .lit (.bool false), .lit (.bool true)], .agg [.lit (.int .i64 77), .lit (.string [106, 115, 101, 116, 120]), .lit (.bool false), .lit (.bool true)]]

/-- 'hurdlelaw24.OptRows': WHATEVER THE INPUT: true; the input reads as it did. -/
def optRowsSpec : ChangeSpec := { name := "optRows", fn := fun _ => fun
  | [d1, d2, d3] => { results := [.lit (.bool true)], args := [d1, d2, d3] }
  | _ => none }
def optRowsRow : OpenClaim := { program := "ytogjnjnabikdpaagreatdoor", sum := "bef1cf4d3fa7187d5556fbd2bf47731be648b8908549588b9e2785f91498b17f", func := "hurdle/hurdlelaw24.OptRows", spec := "optRows", unfollowed := true, recurses := true, named := ["hurdle/ins.shapes"], plainKeys := false, apart := false, laid := [("hurdle/ins.shapes", laid_hurdle_ins_shapes)] }
def OptRowsSaid : Prop := optRowsRow.holds Tryz.pinned (OpenSpec.ofChange optRowsSpec)

/-- ITS FALSE NEIGHBOUR: 'it returns false'. Refute it at one input. -/
def optRowsWrong : ChangeSpec := { name := "optRows", fn := fun _ => fun
  | [d1, d2, d3] => { results := [.lit (.bool false)], args := [d1, d2, d3] }
  | _ => none }
def OptRowsWrongFalsely : Prop := optRowsRow.holds Tryz.pinned (OpenSpec.ofChange optRowsWrong)

/-- 'hurdlelaw24.OptMeans': WHATEVER THE INPUT: true; the input reads as it did. -/
def optMeansSpec : ChangeSpec := { name := "optMeans", fn := fun _ => fun
  | [d1, d2, d3, d4] => { results := [.lit (.bool true)], args := [d1, d2, d3, d4] }
  | _ => none }
def optMeansRow : OpenClaim := { program := "ytogjnjnabikdpaagreatdoor", sum := "bef1cf4d3fa7187d5556fbd2bf47731be648b8908549588b9e2785f91498b17f", func := "hurdle/hurdlelaw24.OptMeans", spec := "optMeans", unfollowed := true, recurses := true, named := ["hurdle/ins.shapes"], plainKeys := false, apart := false, laid := [("hurdle/ins.shapes", laid_hurdle_ins_shapes)] }
def OptMeansSaid : Prop := optMeansRow.holds Tryz.pinned (OpenSpec.ofChange optMeansSpec)

/-- ITS FALSE NEIGHBOUR: 'it returns false'. Refute it at one input. -/
def optMeansWrong : ChangeSpec := { name := "optMeans", fn := fun _ => fun
  | [d1, d2, d3, d4] => { results := [.lit (.bool false)], args := [d1, d2, d3, d4] }
  | _ => none }
def OptMeansWrongFalsely : Prop := optMeansRow.holds Tryz.pinned (OpenSpec.ofChange optMeansWrong)

/-- 'hurdlelaw24.OptStays': WHATEVER THE INPUT: true; the input reads as it did. -/
def optStaysSpec : ChangeSpec := { name := "optStays", fn := fun _ => fun
  | [d1, d2, d3] => { results := [.lit (.bool true)], args := [d1, d2, d3] }
  | _ => none }
def optStaysRow : OpenClaim := { program := "ytogjnjnabikdpaagreatdoor", sum := "bef1cf4d3fa7187d5556fbd2bf47731be648b8908549588b9e2785f91498b17f", func := "hurdle/hurdlelaw24.OptStays", spec := "optStays", unfollowed := true, recurses := true, named := ["hurdle/ins.shapes"], plainKeys := false, apart := false, laid := [("hurdle/ins.shapes", laid_hurdle_ins_shapes)] }
def OptStaysSaid : Prop := optStaysRow.holds Tryz.pinned (OpenSpec.ofChange optStaysSpec)

/-- ITS FALSE NEIGHBOUR: 'it returns false'. Refute it at one input. -/
def optStaysWrong : ChangeSpec := { name := "optStays", fn := fun _ => fun
  | [d1, d2, d3] => { results := [.lit (.bool false)], args := [d1, d2, d3] }
  | _ => none }
def OptStaysWrongFalsely : Prop := optStaysRow.holds Tryz.pinned (OpenSpec.ofChange optStaysWrong)

/-- 'hurdlelaw24.OptLearns': WHATEVER THE INPUT: true; the input reads as it did. -/
def optLearnsSpec : ChangeSpec := { name := "optLearns", fn := fun _ => fun
  | [d1, d2, d3] => { results := [.lit (.bool true)], args := [d1, d2, d3] }
  | _ => none }
def optLearnsRow : OpenClaim := { program := "ytogjnjnabikdpaagreatdoor", sum := "bef1cf4d3fa7187d5556fbd2bf47731be648b8908549588b9e2785f91498b17f", func := "hurdle/hurdlelaw24.OptLearns", spec := "optLearns", unfollowed := true, recurses := true, named := ["hurdle/ins.shapes"], plainKeys := false, apart := false, laid := [("hurdle/ins.shapes", laid_hurdle_ins_shapes)] }
def OptLearnsSaid : Prop := optLearnsRow.holds Tryz.pinned (OpenSpec.ofChange optLearnsSpec)

/-- ITS FALSE NEIGHBOUR: 'it returns false'. Refute it at one input. -/
def optLearnsWrong : ChangeSpec := { name := "optLearns", fn := fun _ => fun
  | [d1, d2, d3] => { results := [.lit (.bool false)], args := [d1, d2, d3] }
  | _ => none }
def OptLearnsWrongFalsely : Prop := optLearnsRow.holds Tryz.pinned (OpenSpec.ofChange optLearnsWrong)

/-- 'hurdlelaw24.OptRounds': WHATEVER THE INPUT: true; the input reads as it did. -/
def optRoundsSpec : ChangeSpec := { name := "optRounds", fn := fun _ => fun
  | [d1, d2, d3] => { results := [.lit (.bool true)], args := [d1, d2, d3] }
  | _ => none }
def optRoundsRow : OpenClaim := { program := "ytogjnjnabikdpaagreatdoor", sum := "bef1cf4d3fa7187d5556fbd2bf47731be648b8908549588b9e2785f91498b17f", func := "hurdle/hurdlelaw24.OptRounds", spec := "optRounds", unfollowed := true, recurses := true, named := ["hurdle/ins.shapes"], plainKeys := false, apart := false, laid := [("hurdle/ins.shapes", laid_hurdle_ins_shapes)] }
def OptRoundsSaid : Prop := optRoundsRow.holds Tryz.pinned (OpenSpec.ofChange optRoundsSpec)

/-- ITS FALSE NEIGHBOUR: 'it returns false'. Refute it at one input. -/
def optRoundsWrong : ChangeSpec := { name := "optRounds", fn := fun _ => fun
  | [d1, d2, d3] => { results := [.lit (.bool false)], args := [d1, d2, d3] }
  | _ => none }
def OptRoundsWrongFalsely : Prop := optRoundsRow.holds Tryz.pinned (OpenSpec.ofChange optRoundsWrong)

/- THE SECOND FORM. 'bulk': how many values and letters a reading holds, each counted each time it is reached (what is shared counts as often as it is met; a slice's spare places count too). A statement '..UptoSaid' is the law's where the arguments, and the package variables that the reading takes, are together of bulk at most 1048576: NARROWER than '..Said'. Prove '..Said' where nothing that the law and all that it calls make is longer than what came in: it says more and counts as full. Else prove '..UptoSaid'. A law counts once. -/
mutual
def uptoBulk {H : Type} : DataW H → Nat
  | .lit (.string bytes) => bytes.length + 1
  | .lit _ => 1
  | .nil => 1
  | .ptr d => uptoBulk d + 1
  | .slice elems spare => uptoBulkAll elems + uptoBulkAll spare + 1
  | .agg parts => uptoBulkAll parts + 1
  | .iface _ d => uptoBulk d + 1
  | .map entries => uptoBulkEntries entries + 1
  | .held _ => 1
def uptoBulkAll {H : Type} : List (DataW H) → Nat
  | [] => 0
  | d :: r => uptoBulk d + uptoBulkAll r
def uptoBulkEntries {H : Type} : List (Lit × DataW H) → Nat
  | [] => 0
  | x :: r => uptoBulkEntry x + uptoBulkEntries r
def uptoBulkEntry {H : Type} : Lit × DataW H → Nat
  | (.string bytes, d) => bytes.length + uptoBulk d + 1
  | (_, d) => uptoBulk d + 1
 end
def uptoSmall : (H : Type) → List (DataW H) → Bool := fun _ ds => decide (uptoBulkAll ds ≤ 1048576)
def OpenSpec.upto (s : _root_.Go.ChangeSpec) : _root_.Go.OpenSpec := { _root_.Go.OpenSpec.ofChange s with cond := some uptoSmall }

/-- 'hurdlelaw24.OptRows', WHERE WHAT IT READS IS OF BULK AT MOST 1048576: true; the input reads as it did. -/
def optRowsUptoRow : OpenClaim := { program := "ytogjnjnabikdpaagreatdoor", sum := "bef1cf4d3fa7187d5556fbd2bf47731be648b8908549588b9e2785f91498b17f", func := "hurdle/hurdlelaw24.OptRows", spec := "optRows", unfollowed := true, recurses := true, named := ["hurdle/ins.shapes"], plainKeys := false, apart := false, laid := [("hurdle/ins.shapes", laid_hurdle_ins_shapes)], narrowed := true }
def OptRowsUptoSaid : Prop := optRowsUptoRow.holds Tryz.pinned (OpenSpec.upto optRowsSpec)

/-- 'hurdlelaw24.OptMeans', WHERE WHAT IT READS IS OF BULK AT MOST 1048576: true; the input reads as it did. -/
def optMeansUptoRow : OpenClaim := { program := "ytogjnjnabikdpaagreatdoor", sum := "bef1cf4d3fa7187d5556fbd2bf47731be648b8908549588b9e2785f91498b17f", func := "hurdle/hurdlelaw24.OptMeans", spec := "optMeans", unfollowed := true, recurses := true, named := ["hurdle/ins.shapes"], plainKeys := false, apart := false, laid := [("hurdle/ins.shapes", laid_hurdle_ins_shapes)], narrowed := true }
def OptMeansUptoSaid : Prop := optMeansUptoRow.holds Tryz.pinned (OpenSpec.upto optMeansSpec)

/-- 'hurdlelaw24.OptStays', WHERE WHAT IT READS IS OF BULK AT MOST 1048576: true; the input reads as it did. -/
def optStaysUptoRow : OpenClaim := { program := "ytogjnjnabikdpaagreatdoor", sum := "bef1cf4d3fa7187d5556fbd2bf47731be648b8908549588b9e2785f91498b17f", func := "hurdle/hurdlelaw24.OptStays", spec := "optStays", unfollowed := true, recurses := true, named := ["hurdle/ins.shapes"], plainKeys := false, apart := false, laid := [("hurdle/ins.shapes", laid_hurdle_ins_shapes)], narrowed := true }
def OptStaysUptoSaid : Prop := optStaysUptoRow.holds Tryz.pinned (OpenSpec.upto optStaysSpec)

/-- 'hurdlelaw24.OptLearns', WHERE WHAT IT READS IS OF BULK AT MOST 1048576: true; the input reads as it did. -/
def optLearnsUptoRow : OpenClaim := { program := "ytogjnjnabikdpaagreatdoor", sum := "bef1cf4d3fa7187d5556fbd2bf47731be648b8908549588b9e2785f91498b17f", func := "hurdle/hurdlelaw24.OptLearns", spec := "optLearns", unfollowed := true, recurses := true, named := ["hurdle/ins.shapes"], plainKeys := false, apart := false, laid := [("hurdle/ins.shapes", laid_hurdle_ins_shapes)], narrowed := true }
def OptLearnsUptoSaid : Prop := optLearnsUptoRow.holds Tryz.pinned (OpenSpec.upto optLearnsSpec)

/-- 'hurdlelaw24.OptRounds', WHERE WHAT IT READS IS OF BULK AT MOST 1048576: true; the input reads as it did. -/
def optRoundsUptoRow : OpenClaim := { program := "ytogjnjnabikdpaagreatdoor", sum := "bef1cf4d3fa7187d5556fbd2bf47731be648b8908549588b9e2785f91498b17f", func := "hurdle/hurdlelaw24.OptRounds", spec := "optRounds", unfollowed := true, recurses := true, named := ["hurdle/ins.shapes"], plainKeys := false, apart := false, laid := [("hurdle/ins.shapes", laid_hurdle_ins_shapes)], narrowed := true }
def OptRoundsUptoSaid : Prop := optRoundsUptoRow.holds Tryz.pinned (OpenSpec.upto optRoundsSpec)

end Rows
end Go.Proofs.YtogjnjnabikdpaaGreatDoor
