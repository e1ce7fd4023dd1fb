/-
  DERIVED. GIVEN WITH THE SEED: THE CARDS: each row of YtpfmblidlbjcmaaDoorRows.lean that lists a variable, with what it lists TIED to the program's text (the seventh form; the later family's looks); each row that meets fmt, with fmt's text TOLD by the authors' own Lean function (tested against real Go, not proved from fmt's source: count such statements apart). THE CARD IS WHAT COUNTS. Prove the row's statement (the work); the ties are given (YtpfmblidlbjcmaaDoorTie.lean); close each card by the builder's one call (the guide's Derived/Test/ToyasCard.lean, 'card_holds'). Laid BY PROGRAM, IN A SANDBOX (cutbox-door.mjs). By AI agents, Wed Nov 11 2026. No macro, syntax, notation, axiom, sorry.
-/
import Derived.Test.YtpfmblidlbjcmaaDoorRows
import GoSem.ClaimSeven
namespace Go.Proofs.YtpfmblidlbjcmaaDoor
namespace Rows

/-- THE TIED CARD OF 'hurdlelaw17.WindowRuns'. -/
def windowRunsCard : Claim7 := { stood := { row := windowRunsRow, standIns := [], harness := (true, "48999fba44e281980bfba7ecb6432935a2ef371ac80d7d7f41af1e45ac26017a"), looks := false }, kinds := [], alts := [], laidByText := true, laidKinds := [.data], laidTests := true, laidLooks := .later }
def WindowRunsCardSaid : Prop := Claim7.holds Tryd.pinned (.plain (OpenSpec.ofChange windowRunsSpec)) windowRunsCard

/-- THE TIED CARD OF 'hurdlelaw17.WindowRows'. -/
def windowRowsCard : Claim7 := { stood := { row := windowRowsRow, standIns := [], harness := (true, "48999fba44e281980bfba7ecb6432935a2ef371ac80d7d7f41af1e45ac26017a"), looks := false }, kinds := [], alts := [], laidByText := true, laidKinds := [.data], laidTests := true, laidLooks := .later }
def WindowRowsCardSaid : Prop := Claim7.holds Tryd.pinned (.plain (OpenSpec.ofChange windowRowsSpec)) windowRowsCard

/-- THE TIED CARD OF 'hurdlelaw17.WindowNone'. -/
def windowNoneCard : Claim7 := { stood := { row := windowNoneRow, standIns := [], harness := (true, "48999fba44e281980bfba7ecb6432935a2ef371ac80d7d7f41af1e45ac26017a"), looks := false }, kinds := [], alts := [], laidByText := true, laidKinds := [.data], laidTests := true, laidLooks := .later }
def WindowNoneCardSaid : Prop := Claim7.holds Tryd.pinned (.plain (OpenSpec.ofChange windowNoneSpec)) windowNoneCard

/-- THE TIED CARD OF 'hurdlelaw17.WindowAssigns'. -/
def windowAssignsCard : Claim7 := { stood := { row := windowAssignsRow, standIns := [], harness := (true, "48999fba44e281980bfba7ecb6432935a2ef371ac80d7d7f41af1e45ac26017a"), looks := false }, kinds := [], alts := [], laidByText := true, laidKinds := [.data], laidTests := true, laidLooks := .later }
def WindowAssignsCardSaid : Prop := Claim7.holds Tryd.pinned (.plain (OpenSpec.ofChange windowAssignsSpec)) windowAssignsCard

/-- THE SECOND FORM's CARD OF 'hurdlelaw17.WindowRuns'. -/
def windowRunsUptoCard : Claim7 := { stood := { row := windowRunsUptoRow, standIns := [], harness := (true, "48999fba44e281980bfba7ecb6432935a2ef371ac80d7d7f41af1e45ac26017a"), looks := false }, kinds := [], alts := [], laidByText := true, laidKinds := [.data], laidTests := true, laidLooks := .later }
def WindowRunsUptoCardSaid : Prop := Claim7.holds Tryd.pinned (.plain (OpenSpec.upto windowRunsSpec)) windowRunsUptoCard

/-- THE SECOND FORM's CARD OF 'hurdlelaw17.WindowRows'. -/
def windowRowsUptoCard : Claim7 := { stood := { row := windowRowsUptoRow, standIns := [], harness := (true, "48999fba44e281980bfba7ecb6432935a2ef371ac80d7d7f41af1e45ac26017a"), looks := false }, kinds := [], alts := [], laidByText := true, laidKinds := [.data], laidTests := true, laidLooks := .later }
def WindowRowsUptoCardSaid : Prop := Claim7.holds Tryd.pinned (.plain (OpenSpec.upto windowRowsSpec)) windowRowsUptoCard

/-- THE SECOND FORM's CARD OF 'hurdlelaw17.WindowNone'. -/
def windowNoneUptoCard : Claim7 := { stood := { row := windowNoneUptoRow, standIns := [], harness := (true, "48999fba44e281980bfba7ecb6432935a2ef371ac80d7d7f41af1e45ac26017a"), looks := false }, kinds := [], alts := [], laidByText := true, laidKinds := [.data], laidTests := true, laidLooks := .later }
def WindowNoneUptoCardSaid : Prop := Claim7.holds Tryd.pinned (.plain (OpenSpec.upto windowNoneSpec)) windowNoneUptoCard

/-- THE SECOND FORM's CARD OF 'hurdlelaw17.WindowAssigns'. -/
def windowAssignsUptoCard : Claim7 := { stood := { row := windowAssignsUptoRow, standIns := [], harness := (true, "48999fba44e281980bfba7ecb6432935a2ef371ac80d7d7f41af1e45ac26017a"), looks := false }, kinds := [], alts := [], laidByText := true, laidKinds := [.data], laidTests := true, laidLooks := .later }
def WindowAssignsUptoCardSaid : Prop := Claim7.holds Tryd.pinned (.plain (OpenSpec.upto windowAssignsSpec)) windowAssignsUptoCard
end Rows
end Go.Proofs.YtpfmblidlbjcmaaDoor
