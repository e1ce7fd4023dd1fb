/-
  DERIVED. GIVEN WITH THE SEED: THE CARDS: each row of YtpfmblidlbjcmaaGreatDoorRows.lean that lists a variable, with what it lists TIED to the program's text (the seventh form; the later family's looks); each row that meets fmt, with fmt's text TOLD by the authors' own Lean function (tested against real Go, not proved from fmt's source: count such statements apart). THE CARD IS WHAT COUNTS. Prove the row's statement (the work); the ties are given (YtpfmblidlbjcmaaGreatDoorTie.lean); close each card by the builder's one call (the guide's Derived/Test/ToyasCard.lean, 'card_holds'). Laid BY PROGRAM, IN A SANDBOX (cutbox-door.mjs). By AI agents, Wed Nov 11 2026. No macro, syntax, notation, axiom, sorry.
-/
import Derived.Test.YtpfmblidlbjcmaaGreatDoorRows
import GoSem.ClaimSeven
namespace Go.Proofs.YtpfmblidlbjcmaaGreatDoor
namespace Rows

/-- THE TIED CARD OF 'hurdlelaw17.WindowValues'. -/
def windowValuesCard : Claim7 := { stood := { row := windowValuesRow, standIns := [], harness := (true, "4d76022663c2ac710953ac782f70a01cd74ae2c1b7b217c79eae8ca1191f47f0"), looks := false }, kinds := [], alts := [], laidByText := true, laidKinds := [.data], laidTests := true, laidLooks := .later }
def WindowValuesCardSaid : Prop := Claim7.holds Tryz.pinned (.plain (OpenSpec.ofChange windowValuesSpec)) windowValuesCard

/-- THE SECOND FORM's CARD OF 'hurdlelaw17.WindowValues'. -/
def windowValuesUptoCard : Claim7 := { stood := { row := windowValuesUptoRow, standIns := [], harness := (true, "4d76022663c2ac710953ac782f70a01cd74ae2c1b7b217c79eae8ca1191f47f0"), looks := false }, kinds := [], alts := [], laidByText := true, laidKinds := [.data], laidTests := true, laidLooks := .later }
def WindowValuesUptoCardSaid : Prop := Claim7.holds Tryz.pinned (.plain (OpenSpec.upto windowValuesSpec)) windowValuesUptoCard
end Rows
end Go.Proofs.YtpfmblidlbjcmaaGreatDoor
