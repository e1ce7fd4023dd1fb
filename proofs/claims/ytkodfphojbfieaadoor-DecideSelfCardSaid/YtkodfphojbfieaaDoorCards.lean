/-
  DERIVED. GIVEN WITH THE SEED: THE CARDS: each row of YtkodfphojbfieaaDoorRows.lean that lists a variable, with what it lists TIED to the program's text (the seventh form; the later family's looks); each row that meets fmt, with fmt's text TOLD by the authors' own Lean function (tested against real Go, not proved from fmt's source: count such statements apart). THE CARD IS WHAT COUNTS. Prove the row's statement (the work); the ties are given (YtkodfphojbfieaaDoorTie.lean); close each card by the builder's one call (the guide's Derived/Test/ToyasCard.lean, 'card_holds'). Laid BY PROGRAM, IN A SANDBOX (cutbox-door.mjs). By AI agents, Wed Nov 11 2026. No macro, syntax, notation, axiom, sorry.
-/
import Derived.Test.YtkodfphojbfieaaDoorRows
import GoSem.ClaimSeven
namespace Go.Proofs.YtkodfphojbfieaaDoor
namespace Rows

/-- THE TIED CARD OF 'hurdlelaw18.DecideSelf'. -/
def decideSelfCard : Claim7 := { stood := { row := decideSelfRow, standIns := [], harness := (true, "9c5749555d9d4867415514fe36e1c9941863dc9c9e71c0f7756746fe40962fb6"), looks := false }, kinds := [], alts := [], laidByText := true, laidKinds := [.data], laidTests := true, laidLooks := .later }
def DecideSelfCardSaid : Prop := Claim7.holds Tryd.pinned (.plain (OpenSpec.ofChange decideSelfSpec)) decideSelfCard

/-- THE TIED CARD OF 'hurdlelaw18.DecideSwaps'. -/
def decideSwapsCard : Claim7 := { stood := { row := decideSwapsRow, standIns := [], harness := (true, "9c5749555d9d4867415514fe36e1c9941863dc9c9e71c0f7756746fe40962fb6"), looks := false }, kinds := [], alts := [], laidByText := true, laidKinds := [.data], laidTests := true, laidLooks := .later }
def DecideSwapsCardSaid : Prop := Claim7.holds Tryd.pinned (.plain (OpenSpec.ofChange decideSwapsSpec)) decideSwapsCard

/-- THE SECOND FORM's CARD OF 'hurdlelaw18.DecideSelf'. -/
def decideSelfUptoCard : Claim7 := { stood := { row := decideSelfUptoRow, standIns := [], harness := (true, "9c5749555d9d4867415514fe36e1c9941863dc9c9e71c0f7756746fe40962fb6"), looks := false }, kinds := [], alts := [], laidByText := true, laidKinds := [.data], laidTests := true, laidLooks := .later }
def DecideSelfUptoCardSaid : Prop := Claim7.holds Tryd.pinned (.plain (OpenSpec.upto decideSelfSpec)) decideSelfUptoCard

/-- THE SECOND FORM's CARD OF 'hurdlelaw18.DecideSwaps'. -/
def decideSwapsUptoCard : Claim7 := { stood := { row := decideSwapsUptoRow, standIns := [], harness := (true, "9c5749555d9d4867415514fe36e1c9941863dc9c9e71c0f7756746fe40962fb6"), looks := false }, kinds := [], alts := [], laidByText := true, laidKinds := [.data], laidTests := true, laidLooks := .later }
def DecideSwapsUptoCardSaid : Prop := Claim7.holds Tryd.pinned (.plain (OpenSpec.upto decideSwapsSpec)) decideSwapsUptoCard
end Rows
end Go.Proofs.YtkodfphojbfieaaDoor
