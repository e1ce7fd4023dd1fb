/-
  NARROWER THAN 'FOR EVERY INPUT', by the rows' own cells (each row's printed sentence says how): DecideDiffers: laid · DecideEqual: laid · DecideDiffer: laid · DecideExact: laid · SearchNumbers: laid · SearchFinds: laid · SearchSound: laid · SearchMore: laid · SearchLetters: laid · SpliceMeans: laid.
  DERIVED. THE GIVEN ROWS OF THIS SEAT. 10 by the template 'for every input the law returns true; each argument reads behind the call as it read before'; 0 by the template 'total and deterministic' (their statements: YtkodfphojbfieaaGreatDoorTotals.lean).
  GIVEN WITH THE SEED: the statements are not yours to turn. If you find one false, say at which input.
  Laid BY PROGRAM, IN A SANDBOX (cutbox-rows.mjs): the forced cells as the released guide's own fill.sh prints them over the translation be23a3e18bb63b5f… (all of the seat's roots in one cut). By AI agents, Wed Nov 11 2026. No macro, syntax, notation, axiom, sorry.
-/
import Derived.Test.YtkodfphojbfieaaGreatDoorChecked
import GoSem.Claim
import GoSem.ClaimJoined
import GoSem.ClaimMapViews
import Derived.JoinedTies
import Derived.KernelRfl
namespace Go.Proofs.YtkodfphojbfieaaGreatDoor
/- THE CELL 'sum', in the pinned program and in every row, IS THE sha256 OF THE DUMP (.gsa) THAT YtkodfphojbfieaaGreatDoorProg.lean LOADS. Nothing in Lean hashes anything: it is a label: what it is worth is what the hold of that sum in a sandbox is worth. -/
noncomputable def Tryz.pinned : Pinned := { name := "ytkodfphojbfieaagreatdoor", sum := "be23a3e18bb63b5f22c553b4b46b921e1c116a9e313d5ea65bdb04369ce96fb9", checked := Tryz.checked }
namespace Rows
def none {H : Type} : Left H := { results := [], args := [] }

/- WHAT THE LISTED PACKAGE-LEVEL VARIABLES READ AS WHEN THE CALL BEGINS. Each datum BY PROGRAM (the guide's laid-datum.mjs) off the statement by which the dump's own 'gosem.cut.vars' lays the variable. In a bare row this is a premise. The card (YtkodfphojbfieaaGreatDoorCards.lean) ties it to the program's text. -/
def laid_hurdle_ins_shapes {H : Type} : DataW H := .agg [.agg [.lit (.int .i64 0), .lit (.string [108, 100]), .lit (.bool true), .lit (.bool false)], .agg [.lit (.int .i64 1), .lit (.string [108, 100, 120]), .lit (.bool true), .lit (.bool false)], .agg [.lit (.int .i64 2), .lit (.string [115, 116]), .lit (.bool true), .lit (.bool false)], .agg [.lit (.int .i64 3), .lit (.string [115, 116, 120]), .lit (.bool true), .lit (.bool false)], .agg [.lit (.int .i64 4), .lit (.string [97, 100, 100]), .lit (.bool true), .lit (.bool false)], .agg [.lit (.int .i64 20), .lit (.string [115, 117, 98]), .lit (.bool true), .lit (.bool false)], .agg [.lit (.int .i64 36), .lit (.string [109, 117, 108]), .lit (.bool true), .lit (.bool false)], .agg [.lit (.int .i64 52), .lit (.string [100, 105, 118]), .lit (.bool true), .lit (.bool false)], .agg [.lit (.int .i64 68), .lit (.string [111, 114]), .lit (.bool true), .lit (.bool false)], .agg [.lit (.int .i64 84), .lit (.string [97, 110, 100]), .lit (.bool true), .lit (.bool false)], .agg [.lit (.int .i64 100), .lit (.string [108, 115, 104]), .lit (.bool true), .lit (.bool false)], .agg [.lit (.int .i64 116), .lit (.string [114, 115, 104]), .lit (.bool true), .lit (.bool false)], .agg [.lit (.int .i64 164), .lit (.string [120, 111, 114]), .lit (.bool true), .lit (.bool false)], .agg [.lit (.int .i64 12), .lit (.string [97, 100, 100, 120]), .lit (.bool false), .lit (.bool false)], .agg [.lit (.int .i64 28), .lit (.string [115, 117, 98, 120]), .lit (.bool false), .lit (.bool false)], .agg [.lit (.int .i64 44), .lit (.string [109, 117, 108, 120]), .lit (.bool false), .lit (.bool false)], .agg [.lit (.int .i64 60), .lit (.string [100, 105, 118, 120]), .lit (.bool false), .lit (.bool false)], .agg [.lit (.int .i64 76), .lit (.string [111, 114, 120]), .lit (.bool false), .lit (.bool false)], .agg [.lit (.int .i64 92), .lit (.string [97, 110, 100, 120]), .lit (.bool false), .lit (.bool false)], .agg [.lit (.int .i64 108), .lit (.string [108, 115, 104, 120]), .lit (.bool false), .lit (.bool false)], .agg [.lit (.int .i64 124), .lit (.string [114, 115, 104, 120]), .lit (.bool false), .lit (.bool false)], .agg [.lit (.int .i64 172), .lit (.string [120, 111, 114, 120]), .lit (.bool false), .lit (.bool false)], .agg [.lit (.int .i64 132), .lit (.string [110, 101, 103]), .lit (.bool false), .lit (.bool false)], .agg [.lit (.int .i64 7), .lit (.string [116, 97, 120]), .lit (.bool false), .lit (.bool false)], .agg [.lit (.int .i64 135), .lit (.string [116, 120, 97]), .lit (.bool false), .lit (.bool false)], .agg [.lit (.int .i64 32), .lit (.string [97, 98, 115]), .lit (.bool true), .lit (.bool false)], .agg [.lit (.int .i64 96), .lit (.string [109, 101, 109]), .lit (.bool true), .lit (.bool false)], .agg [.lit (.int .i64 97), .lit (.string [109, 101, 109, 120]), .lit (.bool true), .lit (.bool false)], .agg [.lit (.int .i64 5), .lit (.string [106, 97]), .lit (.bool true), .lit (.bool false)], .agg [.lit (.int .i64 6), .lit (.string [114, 101, 116]), .lit (.bool true), .lit (.bool false)], .agg [.lit (.int .i64 22), .lit (.string [114, 101, 116, 97]), .lit (.bool false), .lit (.bool false)], .agg [.lit (.int .i64 21), .lit (.string [106, 101, 113]), .lit (.bool true), .lit (.bool true)], .agg [.lit (.int .i64 37), .lit (.string [106, 103, 116]), .lit (.bool true), .lit (.bool true)], .agg [.lit (.int .i64 53), .lit (.string [106, 103, 101]), .lit (.bool true), .lit (.bool true)], .agg [.lit (.int .i64 69), .lit (.string [106, 115, 101, 116]), .lit (.bool true), .lit (.bool true)], .agg [.lit (.int .i64 29), .lit (.string [106, 101, 113, 120]), .lit (.bool false), .lit (.bool true)], .agg [.lit (.int .i64 45), .lit (.string [106, 103, 116, 120]), .lit (.bool false), .lit (.bool true)], .agg [.lit (.int .i64 61), .lit (.string [106, 103, 101, 120]), .lit (.bool false), .lit (.bool true)], .agg [.lit (.int .i64 77), .lit (.string [106, 115, 101, 116, 120]), .lit (.bool false), .lit (.bool true)]]

/-- 'hurdlelaw18.DecideDiffers': WHATEVER THE INPUT: true; the input reads as it did. -/
def decideDiffersSpec : ChangeSpec := { name := "decideDiffers", fn := fun _ => fun
  | [d1, d2, d3, d4, d5] => { results := [.lit (.bool true)], args := [d1, d2, d3, d4, d5] }
  | _ => none }
def decideDiffersRow : OpenClaim := { program := "ytkodfphojbfieaagreatdoor", sum := "be23a3e18bb63b5f22c553b4b46b921e1c116a9e313d5ea65bdb04369ce96fb9", func := "hurdle/hurdlelaw18.DecideDiffers", spec := "decideDiffers", unfollowed := true, recurses := true, named := ["hurdle/ins.shapes"], plainKeys := false, apart := false, laid := [("hurdle/ins.shapes", laid_hurdle_ins_shapes)] }
def DecideDiffersSaid : Prop := decideDiffersRow.holds Tryz.pinned (OpenSpec.ofChange decideDiffersSpec)

/-- ITS FALSE NEIGHBOUR: 'it returns false'. Refute it at one input. -/
def decideDiffersWrong : ChangeSpec := { name := "decideDiffers", fn := fun _ => fun
  | [d1, d2, d3, d4, d5] => { results := [.lit (.bool false)], args := [d1, d2, d3, d4, d5] }
  | _ => none }
def DecideDiffersWrongFalsely : Prop := decideDiffersRow.holds Tryz.pinned (OpenSpec.ofChange decideDiffersWrong)

/-- 'hurdlelaw18.DecideEqual': WHATEVER THE INPUT: true; the input reads as it did. -/
def decideEqualSpec : ChangeSpec := { name := "decideEqual", fn := fun _ => fun
  | [d1, d2, d3, d4, d5] => { results := [.lit (.bool true)], args := [d1, d2, d3, d4, d5] }
  | _ => none }
def decideEqualRow : OpenClaim := { program := "ytkodfphojbfieaagreatdoor", sum := "be23a3e18bb63b5f22c553b4b46b921e1c116a9e313d5ea65bdb04369ce96fb9", func := "hurdle/hurdlelaw18.DecideEqual", spec := "decideEqual", unfollowed := true, recurses := true, named := ["hurdle/ins.shapes"], plainKeys := false, apart := false, laid := [("hurdle/ins.shapes", laid_hurdle_ins_shapes)] }
def DecideEqualSaid : Prop := decideEqualRow.holds Tryz.pinned (OpenSpec.ofChange decideEqualSpec)

/-- ITS FALSE NEIGHBOUR: 'it returns false'. Refute it at one input. -/
def decideEqualWrong : ChangeSpec := { name := "decideEqual", fn := fun _ => fun
  | [d1, d2, d3, d4, d5] => { results := [.lit (.bool false)], args := [d1, d2, d3, d4, d5] }
  | _ => none }
def DecideEqualWrongFalsely : Prop := decideEqualRow.holds Tryz.pinned (OpenSpec.ofChange decideEqualWrong)

/-- 'hurdlelaw18.DecideDiffer': WHATEVER THE INPUT: true; the input reads as it did. -/
def decideDifferSpec : ChangeSpec := { name := "decideDiffer", fn := fun _ => fun
  | [d1, d2, d3] => { results := [.lit (.bool true)], args := [d1, d2, d3] }
  | _ => none }
def decideDifferRow : OpenClaim := { program := "ytkodfphojbfieaagreatdoor", sum := "be23a3e18bb63b5f22c553b4b46b921e1c116a9e313d5ea65bdb04369ce96fb9", func := "hurdle/hurdlelaw18.DecideDiffer", spec := "decideDiffer", unfollowed := true, recurses := true, named := ["hurdle/ins.shapes"], plainKeys := false, apart := false, laid := [("hurdle/ins.shapes", laid_hurdle_ins_shapes)] }
def DecideDifferSaid : Prop := decideDifferRow.holds Tryz.pinned (OpenSpec.ofChange decideDifferSpec)

/-- ITS FALSE NEIGHBOUR: 'it returns false'. Refute it at one input. -/
def decideDifferWrong : ChangeSpec := { name := "decideDiffer", fn := fun _ => fun
  | [d1, d2, d3] => { results := [.lit (.bool false)], args := [d1, d2, d3] }
  | _ => none }
def DecideDifferWrongFalsely : Prop := decideDifferRow.holds Tryz.pinned (OpenSpec.ofChange decideDifferWrong)

/-- 'hurdlelaw18.DecideExact': WHATEVER THE INPUT: true; the input reads as it did. -/
def decideExactSpec : ChangeSpec := { name := "decideExact", fn := fun _ => fun
  | [d1, d2, d3] => { results := [.lit (.bool true)], args := [d1, d2, d3] }
  | _ => none }
def decideExactRow : OpenClaim := { program := "ytkodfphojbfieaagreatdoor", sum := "be23a3e18bb63b5f22c553b4b46b921e1c116a9e313d5ea65bdb04369ce96fb9", func := "hurdle/hurdlelaw18.DecideExact", spec := "decideExact", unfollowed := true, recurses := true, named := ["hurdle/ins.shapes"], plainKeys := false, apart := false, laid := [("hurdle/ins.shapes", laid_hurdle_ins_shapes)] }
def DecideExactSaid : Prop := decideExactRow.holds Tryz.pinned (OpenSpec.ofChange decideExactSpec)

/-- ITS FALSE NEIGHBOUR: 'it returns false'. Refute it at one input. -/
def decideExactWrong : ChangeSpec := { name := "decideExact", fn := fun _ => fun
  | [d1, d2, d3] => { results := [.lit (.bool false)], args := [d1, d2, d3] }
  | _ => none }
def DecideExactWrongFalsely : Prop := decideExactRow.holds Tryz.pinned (OpenSpec.ofChange decideExactWrong)

/-- 'hurdlelaw19.SearchNumbers': WHATEVER THE INPUT: true; the input reads as it did. -/
def searchNumbersSpec : ChangeSpec := { name := "searchNumbers", fn := fun _ => fun
  | [d] => { results := [.lit (.bool true)], args := [d] }
  | _ => none }
def searchNumbersRow : OpenClaim := { program := "ytkodfphojbfieaagreatdoor", sum := "be23a3e18bb63b5f22c553b4b46b921e1c116a9e313d5ea65bdb04369ce96fb9", func := "hurdle/hurdlelaw19.SearchNumbers", spec := "searchNumbers", unfollowed := true, recurses := true, named := ["hurdle/ins.shapes"], plainKeys := false, apart := false, laid := [("hurdle/ins.shapes", laid_hurdle_ins_shapes)] }
def SearchNumbersSaid : Prop := searchNumbersRow.holds Tryz.pinned (OpenSpec.ofChange searchNumbersSpec)

/-- ITS FALSE NEIGHBOUR: 'it returns false'. Refute it at one input. -/
def searchNumbersWrong : ChangeSpec := { name := "searchNumbers", fn := fun _ => fun
  | [d] => { results := [.lit (.bool false)], args := [d] }
  | _ => none }
def SearchNumbersWrongFalsely : Prop := searchNumbersRow.holds Tryz.pinned (OpenSpec.ofChange searchNumbersWrong)

/-- 'hurdlelaw19.SearchFinds': WHATEVER THE INPUT: true; the input reads as it did. -/
def searchFindsSpec : ChangeSpec := { name := "searchFinds", fn := fun _ => fun
  | [d1, d2, d3] => { results := [.lit (.bool true)], args := [d1, d2, d3] }
  | _ => none }
def searchFindsRow : OpenClaim := { program := "ytkodfphojbfieaagreatdoor", sum := "be23a3e18bb63b5f22c553b4b46b921e1c116a9e313d5ea65bdb04369ce96fb9", func := "hurdle/hurdlelaw19.SearchFinds", spec := "searchFinds", unfollowed := true, recurses := true, named := ["hurdle/ins.shapes"], plainKeys := false, apart := false, laid := [("hurdle/ins.shapes", laid_hurdle_ins_shapes)] }
def SearchFindsSaid : Prop := searchFindsRow.holds Tryz.pinned (OpenSpec.ofChange searchFindsSpec)

/-- ITS FALSE NEIGHBOUR: 'it returns false'. Refute it at one input. -/
def searchFindsWrong : ChangeSpec := { name := "searchFinds", fn := fun _ => fun
  | [d1, d2, d3] => { results := [.lit (.bool false)], args := [d1, d2, d3] }
  | _ => none }
def SearchFindsWrongFalsely : Prop := searchFindsRow.holds Tryz.pinned (OpenSpec.ofChange searchFindsWrong)

/-- 'hurdlelaw19.SearchSound': WHATEVER THE INPUT: true; the input reads as it did. -/
def searchSoundSpec : ChangeSpec := { name := "searchSound", fn := fun _ => fun
  | [d1, d2, d3, d4, d5] => { results := [.lit (.bool true)], args := [d1, d2, d3, d4, d5] }
  | _ => none }
def searchSoundRow : OpenClaim := { program := "ytkodfphojbfieaagreatdoor", sum := "be23a3e18bb63b5f22c553b4b46b921e1c116a9e313d5ea65bdb04369ce96fb9", func := "hurdle/hurdlelaw19.SearchSound", spec := "searchSound", unfollowed := true, recurses := true, named := ["hurdle/ins.shapes"], plainKeys := false, apart := false, laid := [("hurdle/ins.shapes", laid_hurdle_ins_shapes)] }
def SearchSoundSaid : Prop := searchSoundRow.holds Tryz.pinned (OpenSpec.ofChange searchSoundSpec)

/-- ITS FALSE NEIGHBOUR: 'it returns false'. Refute it at one input. -/
def searchSoundWrong : ChangeSpec := { name := "searchSound", fn := fun _ => fun
  | [d1, d2, d3, d4, d5] => { results := [.lit (.bool false)], args := [d1, d2, d3, d4, d5] }
  | _ => none }
def SearchSoundWrongFalsely : Prop := searchSoundRow.holds Tryz.pinned (OpenSpec.ofChange searchSoundWrong)

/-- 'hurdlelaw19.SearchMore': WHATEVER THE INPUT: true; the input reads as it did. -/
def searchMoreSpec : ChangeSpec := { name := "searchMore", fn := fun _ => fun
  | [d1, d2, d3, d4] => { results := [.lit (.bool true)], args := [d1, d2, d3, d4] }
  | _ => none }
def searchMoreRow : OpenClaim := { program := "ytkodfphojbfieaagreatdoor", sum := "be23a3e18bb63b5f22c553b4b46b921e1c116a9e313d5ea65bdb04369ce96fb9", func := "hurdle/hurdlelaw19.SearchMore", spec := "searchMore", unfollowed := true, recurses := true, named := ["hurdle/ins.shapes"], plainKeys := false, apart := false, laid := [("hurdle/ins.shapes", laid_hurdle_ins_shapes)] }
def SearchMoreSaid : Prop := searchMoreRow.holds Tryz.pinned (OpenSpec.ofChange searchMoreSpec)

/-- ITS FALSE NEIGHBOUR: 'it returns false'. Refute it at one input. -/
def searchMoreWrong : ChangeSpec := { name := "searchMore", fn := fun _ => fun
  | [d1, d2, d3, d4] => { results := [.lit (.bool false)], args := [d1, d2, d3, d4] }
  | _ => none }
def SearchMoreWrongFalsely : Prop := searchMoreRow.holds Tryz.pinned (OpenSpec.ofChange searchMoreWrong)

/-- 'hurdlelaw19.SearchLetters': WHATEVER THE INPUT: true; the input reads as it did. -/
def searchLettersSpec : ChangeSpec := { name := "searchLetters", fn := fun _ => fun
  | [d1, d2] => { results := [.lit (.bool true)], args := [d1, d2] }
  | _ => none }
def searchLettersRow : OpenClaim := { program := "ytkodfphojbfieaagreatdoor", sum := "be23a3e18bb63b5f22c553b4b46b921e1c116a9e313d5ea65bdb04369ce96fb9", func := "hurdle/hurdlelaw19.SearchLetters", spec := "searchLetters", unfollowed := true, recurses := true, named := ["hurdle/ins.shapes"], plainKeys := false, apart := false, laid := [("hurdle/ins.shapes", laid_hurdle_ins_shapes)] }
def SearchLettersSaid : Prop := searchLettersRow.holds Tryz.pinned (OpenSpec.ofChange searchLettersSpec)

/-- ITS FALSE NEIGHBOUR: 'it returns false'. Refute it at one input. -/
def searchLettersWrong : ChangeSpec := { name := "searchLetters", fn := fun _ => fun
  | [d1, d2] => { results := [.lit (.bool false)], args := [d1, d2] }
  | _ => none }
def SearchLettersWrongFalsely : Prop := searchLettersRow.holds Tryz.pinned (OpenSpec.ofChange searchLettersWrong)

/-- 'hurdlelaw22.SpliceMeans': WHATEVER THE INPUT: true; the input reads as it did. -/
def spliceMeansSpec : ChangeSpec := { name := "spliceMeans", fn := fun _ => fun
  | [d1, d2, d3, d4, d5] => { results := [.lit (.bool true)], args := [d1, d2, d3, d4, d5] }
  | _ => none }
def spliceMeansRow : OpenClaim := { program := "ytkodfphojbfieaagreatdoor", sum := "be23a3e18bb63b5f22c553b4b46b921e1c116a9e313d5ea65bdb04369ce96fb9", func := "hurdle/hurdlelaw22.SpliceMeans", spec := "spliceMeans", unfollowed := true, recurses := true, named := ["hurdle/ins.shapes"], plainKeys := false, apart := false, laid := [("hurdle/ins.shapes", laid_hurdle_ins_shapes)] }
def SpliceMeansSaid : Prop := spliceMeansRow.holds Tryz.pinned (OpenSpec.ofChange spliceMeansSpec)

/-- ITS FALSE NEIGHBOUR: 'it returns false'. Refute it at one input. -/
def spliceMeansWrong : ChangeSpec := { name := "spliceMeans", fn := fun _ => fun
  | [d1, d2, d3, d4, d5] => { results := [.lit (.bool false)], args := [d1, d2, d3, d4, d5] }
  | _ => none }
def SpliceMeansWrongFalsely : Prop := spliceMeansRow.holds Tryz.pinned (OpenSpec.ofChange spliceMeansWrong)

/- THE SECOND FORM. 'bulk': how many values and letters a reading holds, each counted each time it is reached (what is shared counts as often as it is met; a slice's spare places count too). A statement '..UptoSaid' is the law's where the arguments, and the package variables that the reading takes, are together of bulk at most 1048576: NARROWER than '..Said'. Prove '..Said' where nothing that the law and all that it calls make is longer than what came in: it says more and counts as full. Else prove '..UptoSaid'. A law counts once. -/
mutual
def uptoBulk {H : Type} : DataW H → Nat
  | .lit (.string bytes) => bytes.length + 1
  | .lit _ => 1
  | .nil => 1
  | .ptr d => uptoBulk d + 1
  | .slice elems spare => uptoBulkAll elems + uptoBulkAll spare + 1
  | .agg parts => uptoBulkAll parts + 1
  | .iface _ d => uptoBulk d + 1
  | .map entries => uptoBulkEntries entries + 1
  | .held _ => 1
def uptoBulkAll {H : Type} : List (DataW H) → Nat
  | [] => 0
  | d :: r => uptoBulk d + uptoBulkAll r
def uptoBulkEntries {H : Type} : List (Lit × DataW H) → Nat
  | [] => 0
  | x :: r => uptoBulkEntry x + uptoBulkEntries r
def uptoBulkEntry {H : Type} : Lit × DataW H → Nat
  | (.string bytes, d) => bytes.length + uptoBulk d + 1
  | (_, d) => uptoBulk d + 1
 end
def uptoSmall : (H : Type) → List (DataW H) → Bool := fun _ ds => decide (uptoBulkAll ds ≤ 1048576)
def OpenSpec.upto (s : _root_.Go.ChangeSpec) : _root_.Go.OpenSpec := { _root_.Go.OpenSpec.ofChange s with cond := some uptoSmall }

/-- 'hurdlelaw18.DecideDiffers', WHERE WHAT IT READS IS OF BULK AT MOST 1048576: true; the input reads as it did. -/
def decideDiffersUptoRow : OpenClaim := { program := "ytkodfphojbfieaagreatdoor", sum := "be23a3e18bb63b5f22c553b4b46b921e1c116a9e313d5ea65bdb04369ce96fb9", func := "hurdle/hurdlelaw18.DecideDiffers", spec := "decideDiffers", unfollowed := true, recurses := true, named := ["hurdle/ins.shapes"], plainKeys := false, apart := false, laid := [("hurdle/ins.shapes", laid_hurdle_ins_shapes)], narrowed := true }
def DecideDiffersUptoSaid : Prop := decideDiffersUptoRow.holds Tryz.pinned (OpenSpec.upto decideDiffersSpec)

/-- 'hurdlelaw18.DecideEqual', WHERE WHAT IT READS IS OF BULK AT MOST 1048576: true; the input reads as it did. -/
def decideEqualUptoRow : OpenClaim := { program := "ytkodfphojbfieaagreatdoor", sum := "be23a3e18bb63b5f22c553b4b46b921e1c116a9e313d5ea65bdb04369ce96fb9", func := "hurdle/hurdlelaw18.DecideEqual", spec := "decideEqual", unfollowed := true, recurses := true, named := ["hurdle/ins.shapes"], plainKeys := false, apart := false, laid := [("hurdle/ins.shapes", laid_hurdle_ins_shapes)], narrowed := true }
def DecideEqualUptoSaid : Prop := decideEqualUptoRow.holds Tryz.pinned (OpenSpec.upto decideEqualSpec)

/-- 'hurdlelaw18.DecideDiffer', WHERE WHAT IT READS IS OF BULK AT MOST 1048576: true; the input reads as it did. -/
def decideDifferUptoRow : OpenClaim := { program := "ytkodfphojbfieaagreatdoor", sum := "be23a3e18bb63b5f22c553b4b46b921e1c116a9e313d5ea65bdb04369ce96fb9", func := "hurdle/hurdlelaw18.DecideDiffer", spec := "decideDiffer", unfollowed := true, recurses := true, named := ["hurdle/ins.shapes"], plainKeys := false, apart := false, laid := [("hurdle/ins.shapes", laid_hurdle_ins_shapes)], narrowed := true }
def DecideDifferUptoSaid : Prop := decideDifferUptoRow.holds Tryz.pinned (OpenSpec.upto decideDifferSpec)

/-- 'hurdlelaw18.DecideExact', WHERE WHAT IT READS IS OF BULK AT MOST 1048576: true; the input reads as it did. -/
def decideExactUptoRow : OpenClaim := { program := "ytkodfphojbfieaagreatdoor", sum := "be23a3e18bb63b5f22c553b4b46b921e1c116a9e313d5ea65bdb04369ce96fb9", func := "hurdle/hurdlelaw18.DecideExact", spec := "decideExact", unfollowed := true, recurses := true, named := ["hurdle/ins.shapes"], plainKeys := false, apart := false, laid := [("hurdle/ins.shapes", laid_hurdle_ins_shapes)], narrowed := true }
def DecideExactUptoSaid : Prop := decideExactUptoRow.holds Tryz.pinned (OpenSpec.upto decideExactSpec)

/-- 'hurdlelaw19.SearchNumbers', WHERE WHAT IT READS IS OF BULK AT MOST 1048576: true; the input reads as it did. -/
def searchNumbersUptoRow : OpenClaim := { program := "ytkodfphojbfieaagreatdoor", sum := "be23a3e18bb63b5f22c553b4b46b921e1c116a9e313d5ea65bdb04369ce96fb9", func := "hurdle/hurdlelaw19.SearchNumbers", spec := "searchNumbers", unfollowed := true, recurses := true, named := ["hurdle/ins.shapes"], plainKeys := false, apart := false, laid := [("hurdle/ins.shapes", laid_hurdle_ins_shapes)], narrowed := true }
def SearchNumbersUptoSaid : Prop := searchNumbersUptoRow.holds Tryz.pinned (OpenSpec.upto searchNumbersSpec)

/-- 'hurdlelaw19.SearchFinds', WHERE WHAT IT READS IS OF BULK AT MOST 1048576: true; the input reads as it did. -/
def searchFindsUptoRow : OpenClaim := { program := "ytkodfphojbfieaagreatdoor", sum := "be23a3e18bb63b5f22c553b4b46b921e1c116a9e313d5ea65bdb04369ce96fb9", func := "hurdle/hurdlelaw19.SearchFinds", spec := "searchFinds", unfollowed := true, recurses := true, named := ["hurdle/ins.shapes"], plainKeys := false, apart := false, laid := [("hurdle/ins.shapes", laid_hurdle_ins_shapes)], narrowed := true }
def SearchFindsUptoSaid : Prop := searchFindsUptoRow.holds Tryz.pinned (OpenSpec.upto searchFindsSpec)

/-- 'hurdlelaw19.SearchSound', WHERE WHAT IT READS IS OF BULK AT MOST 1048576: true; the input reads as it did. -/
def searchSoundUptoRow : OpenClaim := { program := "ytkodfphojbfieaagreatdoor", sum := "be23a3e18bb63b5f22c553b4b46b921e1c116a9e313d5ea65bdb04369ce96fb9", func := "hurdle/hurdlelaw19.SearchSound", spec := "searchSound", unfollowed := true, recurses := true, named := ["hurdle/ins.shapes"], plainKeys := false, apart := false, laid := [("hurdle/ins.shapes", laid_hurdle_ins_shapes)], narrowed := true }
def SearchSoundUptoSaid : Prop := searchSoundUptoRow.holds Tryz.pinned (OpenSpec.upto searchSoundSpec)

/-- 'hurdlelaw19.SearchMore', WHERE WHAT IT READS IS OF BULK AT MOST 1048576: true; the input reads as it did. -/
def searchMoreUptoRow : OpenClaim := { program := "ytkodfphojbfieaagreatdoor", sum := "be23a3e18bb63b5f22c553b4b46b921e1c116a9e313d5ea65bdb04369ce96fb9", func := "hurdle/hurdlelaw19.SearchMore", spec := "searchMore", unfollowed := true, recurses := true, named := ["hurdle/ins.shapes"], plainKeys := false, apart := false, laid := [("hurdle/ins.shapes", laid_hurdle_ins_shapes)], narrowed := true }
def SearchMoreUptoSaid : Prop := searchMoreUptoRow.holds Tryz.pinned (OpenSpec.upto searchMoreSpec)

/-- 'hurdlelaw19.SearchLetters', WHERE WHAT IT READS IS OF BULK AT MOST 1048576: true; the input reads as it did. -/
def searchLettersUptoRow : OpenClaim := { program := "ytkodfphojbfieaagreatdoor", sum := "be23a3e18bb63b5f22c553b4b46b921e1c116a9e313d5ea65bdb04369ce96fb9", func := "hurdle/hurdlelaw19.SearchLetters", spec := "searchLetters", unfollowed := true, recurses := true, named := ["hurdle/ins.shapes"], plainKeys := false, apart := false, laid := [("hurdle/ins.shapes", laid_hurdle_ins_shapes)], narrowed := true }
def SearchLettersUptoSaid : Prop := searchLettersUptoRow.holds Tryz.pinned (OpenSpec.upto searchLettersSpec)

/-- 'hurdlelaw22.SpliceMeans', WHERE WHAT IT READS IS OF BULK AT MOST 1048576: true; the input reads as it did. -/
def spliceMeansUptoRow : OpenClaim := { program := "ytkodfphojbfieaagreatdoor", sum := "be23a3e18bb63b5f22c553b4b46b921e1c116a9e313d5ea65bdb04369ce96fb9", func := "hurdle/hurdlelaw22.SpliceMeans", spec := "spliceMeans", unfollowed := true, recurses := true, named := ["hurdle/ins.shapes"], plainKeys := false, apart := false, laid := [("hurdle/ins.shapes", laid_hurdle_ins_shapes)], narrowed := true }
def SpliceMeansUptoSaid : Prop := spliceMeansUptoRow.holds Tryz.pinned (OpenSpec.upto spliceMeansSpec)

end Rows
end Go.Proofs.YtkodfphojbfieaaGreatDoor
