/-
  DERIVED. GIVEN WITH THE SEED: THE CARDS: each row of YtcjnmejhdoeafaaDoorRows.lean that lists a variable, with what it lists TIED to the program's text (the seventh form; the later family's looks); each row that meets fmt, with fmt's text TOLD by the authors' own Lean function (tested against real Go, not proved from fmt's source: count such statements apart). THE CARD IS WHAT COUNTS. Prove the row's statement (the work); the ties are given (YtcjnmejhdoeafaaDoorTie.lean); close each card by the builder's one call (the guide's Derived/Test/ToyasCard.lean, 'card_holds'). Laid BY PROGRAM, IN A SANDBOX (cutbox-door.mjs). By AI agents, Wed Nov 11 2026. No macro, syntax, notation, axiom, sorry.
-/
import Derived.Test.YtcjnmejhdoeafaaDoorRows
import GoSem.ClaimSeven
namespace Go.Proofs.YtcjnmejhdoeafaaDoor
namespace Rows

/-- THE TIED CARD OF 'hurdlelaw22.SplicePuts'. -/
def splicePutsCard : Claim7 := { stood := { row := splicePutsRow, standIns := [], harness := (true, "54181c10682b9aaa9af7c5451bfc6cf5e3318f07ee0af2f47e2e66023fe94894"), looks := false }, kinds := [], alts := [], laidByText := true, laidKinds := [.data], laidTests := true, laidLooks := .later }
def SplicePutsCardSaid : Prop := Claim7.holds Tryd.pinned (.plain (OpenSpec.ofChange splicePutsSpec)) splicePutsCard

/-- THE SECOND FORM's CARD OF 'hurdlelaw22.SplicePuts'. -/
def splicePutsUptoCard : Claim7 := { stood := { row := splicePutsUptoRow, standIns := [], harness := (true, "54181c10682b9aaa9af7c5451bfc6cf5e3318f07ee0af2f47e2e66023fe94894"), looks := false }, kinds := [], alts := [], laidByText := true, laidKinds := [.data], laidTests := true, laidLooks := .later }
def SplicePutsUptoCardSaid : Prop := Claim7.holds Tryd.pinned (.plain (OpenSpec.upto splicePutsSpec)) splicePutsUptoCard
end Rows
end Go.Proofs.YtcjnmejhdoeafaaDoor
