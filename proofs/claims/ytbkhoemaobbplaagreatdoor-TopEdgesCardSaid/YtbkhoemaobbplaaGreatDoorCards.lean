/-
  DERIVED. GIVEN WITH THE SEED: THE CARDS: each row of YtbkhoemaobbplaaGreatDoorRows.lean that lists a variable, with what it lists TIED to the program's text (the seventh form; the later family's looks); each row that meets fmt, with fmt's text TOLD by the authors' own Lean function (tested against real Go, not proved from fmt's source: count such statements apart). THE CARD IS WHAT COUNTS. Prove the row's statement (the work); the ties are given (YtbkhoemaobbplaaGreatDoorTie.lean); close each card by the builder's one call (the guide's Derived/Test/ToyasCard.lean, 'card_holds'). Laid BY PROGRAM, IN A SANDBOX (cutbox-door.mjs). By AI agents, Wed Nov 11 2026. No macro, syntax, notation, axiom, sorry.
-/
import Derived.Test.YtbkhoemaobbplaaGreatDoorRows
import GoSem.ClaimSeven
namespace Go.Proofs.YtbkhoemaobbplaaGreatDoor
namespace Rows

/-- THE TIED CARD OF 'hurdlelaw25.CompileMeans'. -/
def compileMeansCard : Claim7 := { stood := { row := compileMeansRow, standIns := [], harness := (true, "36d02ba4ed8ef80a3956fe1fcbd8c9a473cbb3b3f24371302dce67e93e7aba0b"), looks := false }, kinds := [], alts := [], laidByText := true, laidKinds := [.data], laidTests := true, laidLooks := .later }
def CompileMeansCardSaid : Prop := Claim7.holds Tryz.pinned (.plain (OpenSpec.ofChange compileMeansSpec)) compileMeansCard

/-- THE TIED CARD OF 'hurdlelaw25.CompileShort'. -/
def compileShortCard : Claim7 := { stood := { row := compileShortRow, standIns := [], harness := (true, "36d02ba4ed8ef80a3956fe1fcbd8c9a473cbb3b3f24371302dce67e93e7aba0b"), looks := false }, kinds := [], alts := [], laidByText := true, laidKinds := [.data], laidTests := true, laidLooks := .later }
def CompileShortCardSaid : Prop := Claim7.holds Tryz.pinned (.plain (OpenSpec.ofChange compileShortSpec)) compileShortCard

/-- THE TIED CARD OF 'hurdlelaw25.CompileSteps'. -/
def compileStepsCard : Claim7 := { stood := { row := compileStepsRow, standIns := [], harness := (true, "36d02ba4ed8ef80a3956fe1fcbd8c9a473cbb3b3f24371302dce67e93e7aba0b"), looks := false }, kinds := [], alts := [], laidByText := true, laidKinds := [.data], laidTests := true, laidLooks := .later }
def CompileStepsCardSaid : Prop := Claim7.holds Tryz.pinned (.plain (OpenSpec.ofChange compileStepsSpec)) compileStepsCard

/-- THE TIED CARD OF 'hurdlelaw25.CompileLearns'. -/
def compileLearnsCard : Claim7 := { stood := { row := compileLearnsRow, standIns := [], harness := (true, "36d02ba4ed8ef80a3956fe1fcbd8c9a473cbb3b3f24371302dce67e93e7aba0b"), looks := false }, kinds := [], alts := [], laidByText := true, laidKinds := [.data], laidTests := true, laidLooks := .later }
def CompileLearnsCardSaid : Prop := Claim7.holds Tryz.pinned (.plain (OpenSpec.ofChange compileLearnsSpec)) compileLearnsCard

/-- THE TIED CARD OF 'hurdletop.TopEdges'. -/
def topEdgesCard : Claim7 := { stood := { row := topEdgesRow, standIns := [], harness := (true, "36d02ba4ed8ef80a3956fe1fcbd8c9a473cbb3b3f24371302dce67e93e7aba0b"), looks := false }, kinds := [], alts := [], laidByText := true, laidKinds := [.data], laidTests := true, laidLooks := .later }
def TopEdgesCardSaid : Prop := Claim7.holds Tryz.pinned (.plain (OpenSpec.ofChange topEdgesSpec)) topEdgesCard

/-- THE TIED CARD OF 'hurdletop.TopMeans'. -/
def topMeansCard : Claim7 := { stood := { row := topMeansRow, standIns := [], harness := (true, "36d02ba4ed8ef80a3956fe1fcbd8c9a473cbb3b3f24371302dce67e93e7aba0b"), looks := false }, kinds := [], alts := [], laidByText := true, laidKinds := [.data], laidTests := true, laidLooks := .later }
def TopMeansCardSaid : Prop := Claim7.holds Tryz.pinned (.plain (OpenSpec.ofChange topMeansSpec)) topMeansCard

/-- THE SECOND FORM's CARD OF 'hurdlelaw25.CompileMeans'. -/
def compileMeansUptoCard : Claim7 := { stood := { row := compileMeansUptoRow, standIns := [], harness := (true, "36d02ba4ed8ef80a3956fe1fcbd8c9a473cbb3b3f24371302dce67e93e7aba0b"), looks := false }, kinds := [], alts := [], laidByText := true, laidKinds := [.data], laidTests := true, laidLooks := .later }
def CompileMeansUptoCardSaid : Prop := Claim7.holds Tryz.pinned (.plain (OpenSpec.upto compileMeansSpec)) compileMeansUptoCard

/-- THE SECOND FORM's CARD OF 'hurdlelaw25.CompileShort'. -/
def compileShortUptoCard : Claim7 := { stood := { row := compileShortUptoRow, standIns := [], harness := (true, "36d02ba4ed8ef80a3956fe1fcbd8c9a473cbb3b3f24371302dce67e93e7aba0b"), looks := false }, kinds := [], alts := [], laidByText := true, laidKinds := [.data], laidTests := true, laidLooks := .later }
def CompileShortUptoCardSaid : Prop := Claim7.holds Tryz.pinned (.plain (OpenSpec.upto compileShortSpec)) compileShortUptoCard

/-- THE SECOND FORM's CARD OF 'hurdlelaw25.CompileSteps'. -/
def compileStepsUptoCard : Claim7 := { stood := { row := compileStepsUptoRow, standIns := [], harness := (true, "36d02ba4ed8ef80a3956fe1fcbd8c9a473cbb3b3f24371302dce67e93e7aba0b"), looks := false }, kinds := [], alts := [], laidByText := true, laidKinds := [.data], laidTests := true, laidLooks := .later }
def CompileStepsUptoCardSaid : Prop := Claim7.holds Tryz.pinned (.plain (OpenSpec.upto compileStepsSpec)) compileStepsUptoCard

/-- THE SECOND FORM's CARD OF 'hurdlelaw25.CompileLearns'. -/
def compileLearnsUptoCard : Claim7 := { stood := { row := compileLearnsUptoRow, standIns := [], harness := (true, "36d02ba4ed8ef80a3956fe1fcbd8c9a473cbb3b3f24371302dce67e93e7aba0b"), looks := false }, kinds := [], alts := [], laidByText := true, laidKinds := [.data], laidTests := true, laidLooks := .later }
def CompileLearnsUptoCardSaid : Prop := Claim7.holds Tryz.pinned (.plain (OpenSpec.upto compileLearnsSpec)) compileLearnsUptoCard

/-- THE SECOND FORM's CARD OF 'hurdletop.TopEdges'. -/
def topEdgesUptoCard : Claim7 := { stood := { row := topEdgesUptoRow, standIns := [], harness := (true, "36d02ba4ed8ef80a3956fe1fcbd8c9a473cbb3b3f24371302dce67e93e7aba0b"), looks := false }, kinds := [], alts := [], laidByText := true, laidKinds := [.data], laidTests := true, laidLooks := .later }
def TopEdgesUptoCardSaid : Prop := Claim7.holds Tryz.pinned (.plain (OpenSpec.upto topEdgesSpec)) topEdgesUptoCard

/-- THE SECOND FORM's CARD OF 'hurdletop.TopMeans'. -/
def topMeansUptoCard : Claim7 := { stood := { row := topMeansUptoRow, standIns := [], harness := (true, "36d02ba4ed8ef80a3956fe1fcbd8c9a473cbb3b3f24371302dce67e93e7aba0b"), looks := false }, kinds := [], alts := [], laidByText := true, laidKinds := [.data], laidTests := true, laidLooks := .later }
def TopMeansUptoCardSaid : Prop := Claim7.holds Tryz.pinned (.plain (OpenSpec.upto topMeansSpec)) topMeansUptoCard
end Rows
end Go.Proofs.YtbkhoemaobbplaaGreatDoor
