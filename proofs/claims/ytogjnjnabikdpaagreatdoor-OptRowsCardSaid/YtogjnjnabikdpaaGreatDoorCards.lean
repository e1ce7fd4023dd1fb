/-
  DERIVED. GIVEN WITH THE SEED: THE CARDS: each row of YtogjnjnabikdpaaGreatDoorRows.lean that lists a variable, with what it lists TIED to the program's text (the seventh form; the later family's looks); each row that meets fmt, with fmt's text TOLD by the authors' own Lean function (tested against real Go, not proved from fmt's source: count such statements apart). THE CARD IS WHAT COUNTS. Prove the row's statement (the work); the ties are given (YtogjnjnabikdpaaGreatDoorTie.lean); close each card by the builder's one call (the guide's Derived/Test/ToyasCard.lean, 'card_holds'). Laid BY PROGRAM, IN A SANDBOX (cutbox-door.mjs). By AI agents, Wed Nov 11 2026. No macro, syntax, notation, axiom, sorry.
-/
import Derived.Test.YtogjnjnabikdpaaGreatDoorRows
import GoSem.ClaimSeven
namespace Go.Proofs.YtogjnjnabikdpaaGreatDoor
namespace Rows

/-- THE TIED CARD OF 'hurdlelaw24.OptRows'. -/
def optRowsCard : Claim7 := { stood := { row := optRowsRow, standIns := [], harness := (true, "57a7c05d4c1ef29518ff7932644d8621703f858e11165877eb9761ae954106f4"), looks := false }, kinds := [], alts := [], laidByText := true, laidKinds := [.data], laidTests := true, laidLooks := .later }
def OptRowsCardSaid : Prop := Claim7.holds Tryz.pinned (.plain (OpenSpec.ofChange optRowsSpec)) optRowsCard

/-- THE TIED CARD OF 'hurdlelaw24.OptMeans'. -/
def optMeansCard : Claim7 := { stood := { row := optMeansRow, standIns := [], harness := (true, "57a7c05d4c1ef29518ff7932644d8621703f858e11165877eb9761ae954106f4"), looks := false }, kinds := [], alts := [], laidByText := true, laidKinds := [.data], laidTests := true, laidLooks := .later }
def OptMeansCardSaid : Prop := Claim7.holds Tryz.pinned (.plain (OpenSpec.ofChange optMeansSpec)) optMeansCard

/-- THE TIED CARD OF 'hurdlelaw24.OptStays'. -/
def optStaysCard : Claim7 := { stood := { row := optStaysRow, standIns := [], harness := (true, "57a7c05d4c1ef29518ff7932644d8621703f858e11165877eb9761ae954106f4"), looks := false }, kinds := [], alts := [], laidByText := true, laidKinds := [.data], laidTests := true, laidLooks := .later }
def OptStaysCardSaid : Prop := Claim7.holds Tryz.pinned (.plain (OpenSpec.ofChange optStaysSpec)) optStaysCard

/-- THE TIED CARD OF 'hurdlelaw24.OptLearns'. -/
def optLearnsCard : Claim7 := { stood := { row := optLearnsRow, standIns := [], harness := (true, "57a7c05d4c1ef29518ff7932644d8621703f858e11165877eb9761ae954106f4"), looks := false }, kinds := [], alts := [], laidByText := true, laidKinds := [.data], laidTests := true, laidLooks := .later }
def OptLearnsCardSaid : Prop := Claim7.holds Tryz.pinned (.plain (OpenSpec.ofChange optLearnsSpec)) optLearnsCard

/-- THE TIED CARD OF 'hurdlelaw24.OptRounds'. -/
def optRoundsCard : Claim7 := { stood := { row := optRoundsRow, standIns := [], harness := (true, "57a7c05d4c1ef29518ff7932644d8621703f858e11165877eb9761ae954106f4"), looks := false }, kinds := [], alts := [], laidByText := true, laidKinds := [.data], laidTests := true, laidLooks := .later }
def OptRoundsCardSaid : Prop := Claim7.holds Tryz.pinned (.plain (OpenSpec.ofChange optRoundsSpec)) optRoundsCard

/-- THE SECOND FORM's CARD OF 'hurdlelaw24.OptRows'. -/
def optRowsUptoCard : Claim7 := { stood := { row := optRowsUptoRow, standIns := [], harness := (true, "57a7c05d4c1ef29518ff7932644d8621703f858e11165877eb9761ae954106f4"), looks := false }, kinds := [], alts := [], laidByText := true, laidKinds := [.data], laidTests := true, laidLooks := .later }
def OptRowsUptoCardSaid : Prop := Claim7.holds Tryz.pinned (.plain (OpenSpec.upto optRowsSpec)) optRowsUptoCard

/-- THE SECOND FORM's CARD OF 'hurdlelaw24.OptMeans'. -/
def optMeansUptoCard : Claim7 := { stood := { row := optMeansUptoRow, standIns := [], harness := (true, "57a7c05d4c1ef29518ff7932644d8621703f858e11165877eb9761ae954106f4"), looks := false }, kinds := [], alts := [], laidByText := true, laidKinds := [.data], laidTests := true, laidLooks := .later }
def OptMeansUptoCardSaid : Prop := Claim7.holds Tryz.pinned (.plain (OpenSpec.upto optMeansSpec)) optMeansUptoCard

/-- THE SECOND FORM's CARD OF 'hurdlelaw24.OptStays'. -/
def optStaysUptoCard : Claim7 := { stood := { row := optStaysUptoRow, standIns := [], harness := (true, "57a7c05d4c1ef29518ff7932644d8621703f858e11165877eb9761ae954106f4"), looks := false }, kinds := [], alts := [], laidByText := true, laidKinds := [.data], laidTests := true, laidLooks := .later }
def OptStaysUptoCardSaid : Prop := Claim7.holds Tryz.pinned (.plain (OpenSpec.upto optStaysSpec)) optStaysUptoCard

/-- THE SECOND FORM's CARD OF 'hurdlelaw24.OptLearns'. -/
def optLearnsUptoCard : Claim7 := { stood := { row := optLearnsUptoRow, standIns := [], harness := (true, "57a7c05d4c1ef29518ff7932644d8621703f858e11165877eb9761ae954106f4"), looks := false }, kinds := [], alts := [], laidByText := true, laidKinds := [.data], laidTests := true, laidLooks := .later }
def OptLearnsUptoCardSaid : Prop := Claim7.holds Tryz.pinned (.plain (OpenSpec.upto optLearnsSpec)) optLearnsUptoCard

/-- THE SECOND FORM's CARD OF 'hurdlelaw24.OptRounds'. -/
def optRoundsUptoCard : Claim7 := { stood := { row := optRoundsUptoRow, standIns := [], harness := (true, "57a7c05d4c1ef29518ff7932644d8621703f858e11165877eb9761ae954106f4"), looks := false }, kinds := [], alts := [], laidByText := true, laidKinds := [.data], laidTests := true, laidLooks := .later }
def OptRoundsUptoCardSaid : Prop := Claim7.holds Tryz.pinned (.plain (OpenSpec.upto optRoundsSpec)) optRoundsUptoCard
end Rows
end Go.Proofs.YtogjnjnabikdpaaGreatDoor
