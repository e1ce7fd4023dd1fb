/-
  DERIVED. GIVEN WITH THE SEED: THE CARDS: each row of YtkodfphojbfieaaGreatDoorRows.lean that lists a variable, with what it lists TIED to the program's text (the seventh form; the later family's looks); each row that meets fmt, with fmt's text TOLD by the authors' own Lean function (tested against real Go, not proved from fmt's source: count such statements apart). THE CARD IS WHAT COUNTS. Prove the row's statement (the work); the ties are given (YtkodfphojbfieaaGreatDoorTie.lean); close each card by the builder's one call (the guide's Derived/Test/ToyasCard.lean, 'card_holds'). Laid BY PROGRAM, IN A SANDBOX (cutbox-door.mjs). By AI agents, Wed Nov 11 2026. No macro, syntax, notation, axiom, sorry.
-/
import Derived.Test.YtkodfphojbfieaaGreatDoorRows
import GoSem.ClaimSeven
namespace Go.Proofs.YtkodfphojbfieaaGreatDoor
namespace Rows

/-- THE TIED CARD OF 'hurdlelaw18.DecideDiffers'. -/
def decideDiffersCard : Claim7 := { stood := { row := decideDiffersRow, standIns := [], harness := (true, "6547c2291cdeb6965edf392a9a1d4ed61389259ee67365a6da8659a7f0daf41a"), looks := false }, kinds := [], alts := [], laidByText := true, laidKinds := [.data], laidTests := true, laidLooks := .later }
def DecideDiffersCardSaid : Prop := Claim7.holds Tryz.pinned (.plain (OpenSpec.ofChange decideDiffersSpec)) decideDiffersCard

/-- THE TIED CARD OF 'hurdlelaw18.DecideEqual'. -/
def decideEqualCard : Claim7 := { stood := { row := decideEqualRow, standIns := [], harness := (true, "6547c2291cdeb6965edf392a9a1d4ed61389259ee67365a6da8659a7f0daf41a"), looks := false }, kinds := [], alts := [], laidByText := true, laidKinds := [.data], laidTests := true, laidLooks := .later }
def DecideEqualCardSaid : Prop := Claim7.holds Tryz.pinned (.plain (OpenSpec.ofChange decideEqualSpec)) decideEqualCard

/-- THE TIED CARD OF 'hurdlelaw18.DecideDiffer'. -/
def decideDifferCard : Claim7 := { stood := { row := decideDifferRow, standIns := [], harness := (true, "6547c2291cdeb6965edf392a9a1d4ed61389259ee67365a6da8659a7f0daf41a"), looks := false }, kinds := [], alts := [], laidByText := true, laidKinds := [.data], laidTests := true, laidLooks := .later }
def DecideDifferCardSaid : Prop := Claim7.holds Tryz.pinned (.plain (OpenSpec.ofChange decideDifferSpec)) decideDifferCard

/-- THE TIED CARD OF 'hurdlelaw18.DecideExact'. -/
def decideExactCard : Claim7 := { stood := { row := decideExactRow, standIns := [], harness := (true, "6547c2291cdeb6965edf392a9a1d4ed61389259ee67365a6da8659a7f0daf41a"), looks := false }, kinds := [], alts := [], laidByText := true, laidKinds := [.data], laidTests := true, laidLooks := .later }
def DecideExactCardSaid : Prop := Claim7.holds Tryz.pinned (.plain (OpenSpec.ofChange decideExactSpec)) decideExactCard

/-- THE TIED CARD OF 'hurdlelaw19.SearchNumbers'. -/
def searchNumbersCard : Claim7 := { stood := { row := searchNumbersRow, standIns := [], harness := (true, "6547c2291cdeb6965edf392a9a1d4ed61389259ee67365a6da8659a7f0daf41a"), looks := false }, kinds := [], alts := [], laidByText := true, laidKinds := [.data], laidTests := true, laidLooks := .later }
def SearchNumbersCardSaid : Prop := Claim7.holds Tryz.pinned (.plain (OpenSpec.ofChange searchNumbersSpec)) searchNumbersCard

/-- THE TIED CARD OF 'hurdlelaw19.SearchFinds'. -/
def searchFindsCard : Claim7 := { stood := { row := searchFindsRow, standIns := [], harness := (true, "6547c2291cdeb6965edf392a9a1d4ed61389259ee67365a6da8659a7f0daf41a"), looks := false }, kinds := [], alts := [], laidByText := true, laidKinds := [.data], laidTests := true, laidLooks := .later }
def SearchFindsCardSaid : Prop := Claim7.holds Tryz.pinned (.plain (OpenSpec.ofChange searchFindsSpec)) searchFindsCard

/-- THE TIED CARD OF 'hurdlelaw19.SearchSound'. -/
def searchSoundCard : Claim7 := { stood := { row := searchSoundRow, standIns := [], harness := (true, "6547c2291cdeb6965edf392a9a1d4ed61389259ee67365a6da8659a7f0daf41a"), looks := false }, kinds := [], alts := [], laidByText := true, laidKinds := [.data], laidTests := true, laidLooks := .later }
def SearchSoundCardSaid : Prop := Claim7.holds Tryz.pinned (.plain (OpenSpec.ofChange searchSoundSpec)) searchSoundCard

/-- THE TIED CARD OF 'hurdlelaw19.SearchMore'. -/
def searchMoreCard : Claim7 := { stood := { row := searchMoreRow, standIns := [], harness := (true, "6547c2291cdeb6965edf392a9a1d4ed61389259ee67365a6da8659a7f0daf41a"), looks := false }, kinds := [], alts := [], laidByText := true, laidKinds := [.data], laidTests := true, laidLooks := .later }
def SearchMoreCardSaid : Prop := Claim7.holds Tryz.pinned (.plain (OpenSpec.ofChange searchMoreSpec)) searchMoreCard

/-- THE TIED CARD OF 'hurdlelaw19.SearchLetters'. -/
def searchLettersCard : Claim7 := { stood := { row := searchLettersRow, standIns := [], harness := (true, "6547c2291cdeb6965edf392a9a1d4ed61389259ee67365a6da8659a7f0daf41a"), looks := false }, kinds := [], alts := [], laidByText := true, laidKinds := [.data], laidTests := true, laidLooks := .later }
def SearchLettersCardSaid : Prop := Claim7.holds Tryz.pinned (.plain (OpenSpec.ofChange searchLettersSpec)) searchLettersCard

/-- THE TIED CARD OF 'hurdlelaw22.SpliceMeans'. -/
def spliceMeansCard : Claim7 := { stood := { row := spliceMeansRow, standIns := [], harness := (true, "6547c2291cdeb6965edf392a9a1d4ed61389259ee67365a6da8659a7f0daf41a"), looks := false }, kinds := [], alts := [], laidByText := true, laidKinds := [.data], laidTests := true, laidLooks := .later }
def SpliceMeansCardSaid : Prop := Claim7.holds Tryz.pinned (.plain (OpenSpec.ofChange spliceMeansSpec)) spliceMeansCard

/-- THE SECOND FORM's CARD OF 'hurdlelaw18.DecideDiffers'. -/
def decideDiffersUptoCard : Claim7 := { stood := { row := decideDiffersUptoRow, standIns := [], harness := (true, "6547c2291cdeb6965edf392a9a1d4ed61389259ee67365a6da8659a7f0daf41a"), looks := false }, kinds := [], alts := [], laidByText := true, laidKinds := [.data], laidTests := true, laidLooks := .later }
def DecideDiffersUptoCardSaid : Prop := Claim7.holds Tryz.pinned (.plain (OpenSpec.upto decideDiffersSpec)) decideDiffersUptoCard

/-- THE SECOND FORM's CARD OF 'hurdlelaw18.DecideEqual'. -/
def decideEqualUptoCard : Claim7 := { stood := { row := decideEqualUptoRow, standIns := [], harness := (true, "6547c2291cdeb6965edf392a9a1d4ed61389259ee67365a6da8659a7f0daf41a"), looks := false }, kinds := [], alts := [], laidByText := true, laidKinds := [.data], laidTests := true, laidLooks := .later }
def DecideEqualUptoCardSaid : Prop := Claim7.holds Tryz.pinned (.plain (OpenSpec.upto decideEqualSpec)) decideEqualUptoCard

/-- THE SECOND FORM's CARD OF 'hurdlelaw18.DecideDiffer'. -/
def decideDifferUptoCard : Claim7 := { stood := { row := decideDifferUptoRow, standIns := [], harness := (true, "6547c2291cdeb6965edf392a9a1d4ed61389259ee67365a6da8659a7f0daf41a"), looks := false }, kinds := [], alts := [], laidByText := true, laidKinds := [.data], laidTests := true, laidLooks := .later }
def DecideDifferUptoCardSaid : Prop := Claim7.holds Tryz.pinned (.plain (OpenSpec.upto decideDifferSpec)) decideDifferUptoCard

/-- THE SECOND FORM's CARD OF 'hurdlelaw18.DecideExact'. -/
def decideExactUptoCard : Claim7 := { stood := { row := decideExactUptoRow, standIns := [], harness := (true, "6547c2291cdeb6965edf392a9a1d4ed61389259ee67365a6da8659a7f0daf41a"), looks := false }, kinds := [], alts := [], laidByText := true, laidKinds := [.data], laidTests := true, laidLooks := .later }
def DecideExactUptoCardSaid : Prop := Claim7.holds Tryz.pinned (.plain (OpenSpec.upto decideExactSpec)) decideExactUptoCard

/-- THE SECOND FORM's CARD OF 'hurdlelaw19.SearchNumbers'. -/
def searchNumbersUptoCard : Claim7 := { stood := { row := searchNumbersUptoRow, standIns := [], harness := (true, "6547c2291cdeb6965edf392a9a1d4ed61389259ee67365a6da8659a7f0daf41a"), looks := false }, kinds := [], alts := [], laidByText := true, laidKinds := [.data], laidTests := true, laidLooks := .later }
def SearchNumbersUptoCardSaid : Prop := Claim7.holds Tryz.pinned (.plain (OpenSpec.upto searchNumbersSpec)) searchNumbersUptoCard

/-- THE SECOND FORM's CARD OF 'hurdlelaw19.SearchFinds'. -/
def searchFindsUptoCard : Claim7 := { stood := { row := searchFindsUptoRow, standIns := [], harness := (true, "6547c2291cdeb6965edf392a9a1d4ed61389259ee67365a6da8659a7f0daf41a"), looks := false }, kinds := [], alts := [], laidByText := true, laidKinds := [.data], laidTests := true, laidLooks := .later }
def SearchFindsUptoCardSaid : Prop := Claim7.holds Tryz.pinned (.plain (OpenSpec.upto searchFindsSpec)) searchFindsUptoCard

/-- THE SECOND FORM's CARD OF 'hurdlelaw19.SearchSound'. -/
def searchSoundUptoCard : Claim7 := { stood := { row := searchSoundUptoRow, standIns := [], harness := (true, "6547c2291cdeb6965edf392a9a1d4ed61389259ee67365a6da8659a7f0daf41a"), looks := false }, kinds := [], alts := [], laidByText := true, laidKinds := [.data], laidTests := true, laidLooks := .later }
def SearchSoundUptoCardSaid : Prop := Claim7.holds Tryz.pinned (.plain (OpenSpec.upto searchSoundSpec)) searchSoundUptoCard

/-- THE SECOND FORM's CARD OF 'hurdlelaw19.SearchMore'. -/
def searchMoreUptoCard : Claim7 := { stood := { row := searchMoreUptoRow, standIns := [], harness := (true, "6547c2291cdeb6965edf392a9a1d4ed61389259ee67365a6da8659a7f0daf41a"), looks := false }, kinds := [], alts := [], laidByText := true, laidKinds := [.data], laidTests := true, laidLooks := .later }
def SearchMoreUptoCardSaid : Prop := Claim7.holds Tryz.pinned (.plain (OpenSpec.upto searchMoreSpec)) searchMoreUptoCard

/-- THE SECOND FORM's CARD OF 'hurdlelaw19.SearchLetters'. -/
def searchLettersUptoCard : Claim7 := { stood := { row := searchLettersUptoRow, standIns := [], harness := (true, "6547c2291cdeb6965edf392a9a1d4ed61389259ee67365a6da8659a7f0daf41a"), looks := false }, kinds := [], alts := [], laidByText := true, laidKinds := [.data], laidTests := true, laidLooks := .later }
def SearchLettersUptoCardSaid : Prop := Claim7.holds Tryz.pinned (.plain (OpenSpec.upto searchLettersSpec)) searchLettersUptoCard

/-- THE SECOND FORM's CARD OF 'hurdlelaw22.SpliceMeans'. -/
def spliceMeansUptoCard : Claim7 := { stood := { row := spliceMeansUptoRow, standIns := [], harness := (true, "6547c2291cdeb6965edf392a9a1d4ed61389259ee67365a6da8659a7f0daf41a"), looks := false }, kinds := [], alts := [], laidByText := true, laidKinds := [.data], laidTests := true, laidLooks := .later }
def SpliceMeansUptoCardSaid : Prop := Claim7.holds Tryz.pinned (.plain (OpenSpec.upto spliceMeansSpec)) spliceMeansUptoCard
end Rows
end Go.Proofs.YtkodfphojbfieaaGreatDoor
