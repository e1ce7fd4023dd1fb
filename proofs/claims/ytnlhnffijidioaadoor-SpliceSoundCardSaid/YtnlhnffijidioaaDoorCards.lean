/-
  DERIVED. GIVEN WITH THE SEED: THE CARDS: each row of YtnlhnffijidioaaDoorRows.lean that lists a variable, with what it lists TIED to the program's text (the seventh form; the later family's looks); each row that meets fmt, with fmt's text TOLD by the authors' own Lean function (tested against real Go, not proved from fmt's source: count such statements apart). THE CARD IS WHAT COUNTS. Prove the row's statement (the work); the ties are given (YtnlhnffijidioaaDoorTie.lean); close each card by the builder's one call (the guide's Derived/Test/ToyasCard.lean, 'card_holds'). Laid BY PROGRAM, IN A SANDBOX (cutbox-door.mjs). By AI agents, Wed Nov 11 2026. No macro, syntax, notation, axiom, sorry.
-/
import Derived.Test.YtnlhnffijidioaaDoorRows
import GoSem.ClaimSeven
namespace Go.Proofs.YtnlhnffijidioaaDoor
namespace Rows

/-- THE TIED CARD OF 'hurdlelaw22.SplicePuts'. -/
def splicePutsCard : Claim7 := { stood := { row := splicePutsRow, standIns := [], harness := (true, "8137da613f8da94ec93ecca8a2a4023c92a425008d97019b2a7528b33b1f7d71"), looks := false }, kinds := [], alts := [], laidByText := true, laidKinds := [.data], laidTests := true, laidLooks := .later }
def SplicePutsCardSaid : Prop := Claim7.holds Tryd.pinned (.plain (OpenSpec.ofChange splicePutsSpec)) splicePutsCard

/-- THE TIED CARD OF 'hurdlelaw22.SplicePieces'. -/
def splicePiecesCard : Claim7 := { stood := { row := splicePiecesRow, standIns := [], harness := (true, "8137da613f8da94ec93ecca8a2a4023c92a425008d97019b2a7528b33b1f7d71"), looks := false }, kinds := [], alts := [], laidByText := true, laidKinds := [.data], laidTests := true, laidLooks := .later }
def SplicePiecesCardSaid : Prop := Claim7.holds Tryd.pinned (.plain (OpenSpec.ofChange splicePiecesSpec)) splicePiecesCard

/-- THE TIED CARD OF 'hurdlelaw22.SpliceSound'. -/
def spliceSoundCard : Claim7 := { stood := { row := spliceSoundRow, standIns := [], harness := (true, "8137da613f8da94ec93ecca8a2a4023c92a425008d97019b2a7528b33b1f7d71"), looks := false }, kinds := [], alts := [], laidByText := true, laidKinds := [.data], laidTests := true, laidLooks := .later }
def SpliceSoundCardSaid : Prop := Claim7.holds Tryd.pinned (.plain (OpenSpec.ofChange spliceSoundSpec)) spliceSoundCard

/-- THE TIED CARD OF 'hurdlelaw22.SpliceSelf'. -/
def spliceSelfCard : Claim7 := { stood := { row := spliceSelfRow, standIns := [], harness := (true, "8137da613f8da94ec93ecca8a2a4023c92a425008d97019b2a7528b33b1f7d71"), looks := false }, kinds := [], alts := [], laidByText := true, laidKinds := [.data], laidTests := true, laidLooks := .later }
def SpliceSelfCardSaid : Prop := Claim7.holds Tryd.pinned (.plain (OpenSpec.ofChange spliceSelfSpec)) spliceSelfCard

/-- THE TIED CARD OF 'hurdlelaw22.SpliceRows'. -/
def spliceRowsCard : Claim7 := { stood := { row := spliceRowsRow, standIns := [], harness := (true, "8137da613f8da94ec93ecca8a2a4023c92a425008d97019b2a7528b33b1f7d71"), looks := false }, kinds := [], alts := [], laidByText := true, laidKinds := [.data], laidTests := true, laidLooks := .later }
def SpliceRowsCardSaid : Prop := Claim7.holds Tryd.pinned (.plain (OpenSpec.ofChange spliceRowsSpec)) spliceRowsCard

/-- THE TIED CARD OF 'hurdlelaw07.LiveTells'. -/
def liveTellsCard : Claim7 := { stood := { row := liveTellsRow, standIns := [], harness := (true, "8137da613f8da94ec93ecca8a2a4023c92a425008d97019b2a7528b33b1f7d71"), looks := false }, kinds := [], alts := [], laidByText := true, laidKinds := [.data], laidTests := true, laidLooks := .later }
def LiveTellsCardSaid : Prop := Claim7.holds Tryd.pinned (.plain (OpenSpec.ofChange liveTellsSpec)) liveTellsCard

/-- THE TIED CARD OF 'hurdlelaw07.LivePlaces'. -/
def livePlacesCard : Claim7 := { stood := { row := livePlacesRow, standIns := [], harness := (true, "8137da613f8da94ec93ecca8a2a4023c92a425008d97019b2a7528b33b1f7d71"), looks := false }, kinds := [], alts := [], laidByText := true, laidKinds := [.data], laidTests := true, laidLooks := .later }
def LivePlacesCardSaid : Prop := Claim7.holds Tryd.pinned (.plain (OpenSpec.ofChange livePlacesSpec)) livePlacesCard

/-- THE TIED CARD OF 'hurdlelaw07.LiveRuns'. -/
def liveRunsCard : Claim7 := { stood := { row := liveRunsRow, standIns := [], harness := (true, "8137da613f8da94ec93ecca8a2a4023c92a425008d97019b2a7528b33b1f7d71"), looks := false }, kinds := [], alts := [], laidByText := true, laidKinds := [.data], laidTests := true, laidLooks := .later }
def LiveRunsCardSaid : Prop := Claim7.holds Tryd.pinned (.plain (OpenSpec.ofChange liveRunsSpec)) liveRunsCard

/-- THE TIED CARD OF 'hurdlelaw07.LiveLast'. -/
def liveLastCard : Claim7 := { stood := { row := liveLastRow, standIns := [], harness := (true, "8137da613f8da94ec93ecca8a2a4023c92a425008d97019b2a7528b33b1f7d71"), looks := false }, kinds := [], alts := [], laidByText := true, laidKinds := [.data], laidTests := true, laidLooks := .later }
def LiveLastCardSaid : Prop := Claim7.holds Tryd.pinned (.plain (OpenSpec.ofChange liveLastSpec)) liveLastCard

/-- THE TIED CARD OF 'hurdlelaw07.LiveBranches'. -/
def liveBranchesCard : Claim7 := { stood := { row := liveBranchesRow, standIns := [], harness := (true, "8137da613f8da94ec93ecca8a2a4023c92a425008d97019b2a7528b33b1f7d71"), looks := false }, kinds := [], alts := [], laidByText := true, laidKinds := [.data], laidTests := true, laidLooks := .later }
def LiveBranchesCardSaid : Prop := Claim7.holds Tryd.pinned (.plain (OpenSpec.ofChange liveBranchesSpec)) liveBranchesCard

/-- THE TIED CARD OF 'hurdlelaw07.LiveSteps'. -/
def liveStepsCard : Claim7 := { stood := { row := liveStepsRow, standIns := [], harness := (true, "8137da613f8da94ec93ecca8a2a4023c92a425008d97019b2a7528b33b1f7d71"), looks := false }, kinds := [], alts := [], laidByText := true, laidKinds := [.data], laidTests := true, laidLooks := .later }
def LiveStepsCardSaid : Prop := Claim7.holds Tryd.pinned (.plain (OpenSpec.ofChange liveStepsSpec)) liveStepsCard

/-- THE SECOND FORM's CARD OF 'hurdlelaw22.SplicePuts'. -/
def splicePutsUptoCard : Claim7 := { stood := { row := splicePutsUptoRow, standIns := [], harness := (true, "8137da613f8da94ec93ecca8a2a4023c92a425008d97019b2a7528b33b1f7d71"), looks := false }, kinds := [], alts := [], laidByText := true, laidKinds := [.data], laidTests := true, laidLooks := .later }
def SplicePutsUptoCardSaid : Prop := Claim7.holds Tryd.pinned (.plain (OpenSpec.upto splicePutsSpec)) splicePutsUptoCard

/-- THE SECOND FORM's CARD OF 'hurdlelaw22.SplicePieces'. -/
def splicePiecesUptoCard : Claim7 := { stood := { row := splicePiecesUptoRow, standIns := [], harness := (true, "8137da613f8da94ec93ecca8a2a4023c92a425008d97019b2a7528b33b1f7d71"), looks := false }, kinds := [], alts := [], laidByText := true, laidKinds := [.data], laidTests := true, laidLooks := .later }
def SplicePiecesUptoCardSaid : Prop := Claim7.holds Tryd.pinned (.plain (OpenSpec.upto splicePiecesSpec)) splicePiecesUptoCard

/-- THE SECOND FORM's CARD OF 'hurdlelaw22.SpliceSound'. -/
def spliceSoundUptoCard : Claim7 := { stood := { row := spliceSoundUptoRow, standIns := [], harness := (true, "8137da613f8da94ec93ecca8a2a4023c92a425008d97019b2a7528b33b1f7d71"), looks := false }, kinds := [], alts := [], laidByText := true, laidKinds := [.data], laidTests := true, laidLooks := .later }
def SpliceSoundUptoCardSaid : Prop := Claim7.holds Tryd.pinned (.plain (OpenSpec.upto spliceSoundSpec)) spliceSoundUptoCard

/-- THE SECOND FORM's CARD OF 'hurdlelaw22.SpliceSelf'. -/
def spliceSelfUptoCard : Claim7 := { stood := { row := spliceSelfUptoRow, standIns := [], harness := (true, "8137da613f8da94ec93ecca8a2a4023c92a425008d97019b2a7528b33b1f7d71"), looks := false }, kinds := [], alts := [], laidByText := true, laidKinds := [.data], laidTests := true, laidLooks := .later }
def SpliceSelfUptoCardSaid : Prop := Claim7.holds Tryd.pinned (.plain (OpenSpec.upto spliceSelfSpec)) spliceSelfUptoCard

/-- THE SECOND FORM's CARD OF 'hurdlelaw22.SpliceRows'. -/
def spliceRowsUptoCard : Claim7 := { stood := { row := spliceRowsUptoRow, standIns := [], harness := (true, "8137da613f8da94ec93ecca8a2a4023c92a425008d97019b2a7528b33b1f7d71"), looks := false }, kinds := [], alts := [], laidByText := true, laidKinds := [.data], laidTests := true, laidLooks := .later }
def SpliceRowsUptoCardSaid : Prop := Claim7.holds Tryd.pinned (.plain (OpenSpec.upto spliceRowsSpec)) spliceRowsUptoCard

/-- THE SECOND FORM's CARD OF 'hurdlelaw07.LiveTells'. -/
def liveTellsUptoCard : Claim7 := { stood := { row := liveTellsUptoRow, standIns := [], harness := (true, "8137da613f8da94ec93ecca8a2a4023c92a425008d97019b2a7528b33b1f7d71"), looks := false }, kinds := [], alts := [], laidByText := true, laidKinds := [.data], laidTests := true, laidLooks := .later }
def LiveTellsUptoCardSaid : Prop := Claim7.holds Tryd.pinned (.plain (OpenSpec.upto liveTellsSpec)) liveTellsUptoCard

/-- THE SECOND FORM's CARD OF 'hurdlelaw07.LivePlaces'. -/
def livePlacesUptoCard : Claim7 := { stood := { row := livePlacesUptoRow, standIns := [], harness := (true, "8137da613f8da94ec93ecca8a2a4023c92a425008d97019b2a7528b33b1f7d71"), looks := false }, kinds := [], alts := [], laidByText := true, laidKinds := [.data], laidTests := true, laidLooks := .later }
def LivePlacesUptoCardSaid : Prop := Claim7.holds Tryd.pinned (.plain (OpenSpec.upto livePlacesSpec)) livePlacesUptoCard

/-- THE SECOND FORM's CARD OF 'hurdlelaw07.LiveRuns'. -/
def liveRunsUptoCard : Claim7 := { stood := { row := liveRunsUptoRow, standIns := [], harness := (true, "8137da613f8da94ec93ecca8a2a4023c92a425008d97019b2a7528b33b1f7d71"), looks := false }, kinds := [], alts := [], laidByText := true, laidKinds := [.data], laidTests := true, laidLooks := .later }
def LiveRunsUptoCardSaid : Prop := Claim7.holds Tryd.pinned (.plain (OpenSpec.upto liveRunsSpec)) liveRunsUptoCard

/-- THE SECOND FORM's CARD OF 'hurdlelaw07.LiveLast'. -/
def liveLastUptoCard : Claim7 := { stood := { row := liveLastUptoRow, standIns := [], harness := (true, "8137da613f8da94ec93ecca8a2a4023c92a425008d97019b2a7528b33b1f7d71"), looks := false }, kinds := [], alts := [], laidByText := true, laidKinds := [.data], laidTests := true, laidLooks := .later }
def LiveLastUptoCardSaid : Prop := Claim7.holds Tryd.pinned (.plain (OpenSpec.upto liveLastSpec)) liveLastUptoCard

/-- THE SECOND FORM's CARD OF 'hurdlelaw07.LiveBranches'. -/
def liveBranchesUptoCard : Claim7 := { stood := { row := liveBranchesUptoRow, standIns := [], harness := (true, "8137da613f8da94ec93ecca8a2a4023c92a425008d97019b2a7528b33b1f7d71"), looks := false }, kinds := [], alts := [], laidByText := true, laidKinds := [.data], laidTests := true, laidLooks := .later }
def LiveBranchesUptoCardSaid : Prop := Claim7.holds Tryd.pinned (.plain (OpenSpec.upto liveBranchesSpec)) liveBranchesUptoCard

/-- THE SECOND FORM's CARD OF 'hurdlelaw07.LiveSteps'. -/
def liveStepsUptoCard : Claim7 := { stood := { row := liveStepsUptoRow, standIns := [], harness := (true, "8137da613f8da94ec93ecca8a2a4023c92a425008d97019b2a7528b33b1f7d71"), looks := false }, kinds := [], alts := [], laidByText := true, laidKinds := [.data], laidTests := true, laidLooks := .later }
def LiveStepsUptoCardSaid : Prop := Claim7.holds Tryd.pinned (.plain (OpenSpec.upto liveStepsSpec)) liveStepsUptoCard
end Rows
end Go.Proofs.YtnlhnffijidioaaDoor
