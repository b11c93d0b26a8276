/-
  DERIVED. GIVEN WITH THE SEED: THE CARDS: each row of YtiliddklaklekaaDoorRows.lean that lists a variable, with what it lists TIED to the program's text (the seventh form; the later family's looks); each row that meets fmt, with fmt's text TOLD by the authors' own Lean function (tested against real Go, not proved from fmt's source: count such statements apart). THE CARD IS WHAT COUNTS. Prove the row's statement (the work); the ties are given (YtiliddklaklekaaDoorTie.lean); close each card by the builder's one call (the guide's Derived/Test/ToyasCard.lean, 'card_holds'). Laid BY PROGRAM, IN A SANDBOX (cutbox-door.mjs). By AI agents, Wed Nov 11 2026. No macro, syntax, notation, axiom, sorry.
-/
import Derived.Test.YtiliddklaklekaaDoorRows
import GoSem.ClaimSeven
namespace Go.Proofs.YtiliddklaklekaaDoor
namespace Rows

/-- THE TIED CARD OF 'nostoslaw10.AsmLays'. -/
def asmLaysCard : Claim7 := { stood := { row := asmLaysRow, standIns := [], harness := (true, "961e839cc12026cbaef8b63ef80415f98936f9fe6d737958e1b5d0b4db23427f"), looks := false }, kinds := [], alts := [], laidByText := true, laidKinds := [.listed, .data], laidTests := true, laidLooks := .later }
def AsmLaysCardSaid : Prop := Claim7.holds Tryd.pinned (.plain (OpenSpec.ofChange asmLaysSpec)) asmLaysCard

/-- THE TIED CARD OF 'nostoslaw10.AsmFetches'. -/
def asmFetchesCard : Claim7 := { stood := { row := asmFetchesRow, standIns := [], harness := (true, "961e839cc12026cbaef8b63ef80415f98936f9fe6d737958e1b5d0b4db23427f"), looks := false }, kinds := [], alts := [], laidByText := true, laidKinds := [.listed, .data], laidTests := true, laidLooks := .later }
def AsmFetchesCardSaid : Prop := Claim7.holds Tryd.pinned (.plain (OpenSpec.ofChange asmFetchesSpec)) asmFetchesCard

/-- THE TIED CARD OF 'nostoslaw10.AsmUp'. -/
def asmUpCard : Claim7 := { stood := { row := asmUpRow, standIns := [], harness := (true, "961e839cc12026cbaef8b63ef80415f98936f9fe6d737958e1b5d0b4db23427f"), looks := false }, kinds := [], alts := [], laidByText := true, laidKinds := [.listed, .data], laidTests := true, laidLooks := .later }
def AsmUpCardSaid : Prop := Claim7.holds Tryd.pinned (.plain (OpenSpec.ofChange asmUpSpec)) asmUpCard

/-- THE TIED CARD OF 'nostoslaw10.AsmBack'. -/
def asmBackCard : Claim7 := { stood := { row := asmBackRow, standIns := [], harness := (true, "961e839cc12026cbaef8b63ef80415f98936f9fe6d737958e1b5d0b4db23427f"), looks := false }, kinds := [], alts := [], laidByText := true, laidKinds := [.listed, .data], laidTests := true, laidLooks := .later }
def AsmBackCardSaid : Prop := Claim7.holds Tryd.pinned (.plain (OpenSpec.ofChange asmBackSpec)) asmBackCard

/-- THE TIED CARD OF 'nostoslaw10.AsmWalk'. -/
def asmWalkCard : Claim7 := { stood := { row := asmWalkRow, standIns := [], harness := (true, "961e839cc12026cbaef8b63ef80415f98936f9fe6d737958e1b5d0b4db23427f"), looks := false }, kinds := [], alts := [], laidByText := true, laidKinds := [.listed, .data], laidTests := true, laidLooks := .later }
def AsmWalkCardSaid : Prop := Claim7.holds Tryd.pinned (.plain (OpenSpec.ofChange asmWalkSpec)) asmWalkCard

/-- THE SECOND FORM's CARD OF 'nostoslaw10.AsmLays'. -/
def asmLaysUptoCard : Claim7 := { stood := { row := asmLaysUptoRow, standIns := [], harness := (true, "961e839cc12026cbaef8b63ef80415f98936f9fe6d737958e1b5d0b4db23427f"), looks := false }, kinds := [], alts := [], laidByText := true, laidKinds := [.listed, .data], laidTests := true, laidLooks := .later }
def AsmLaysUptoCardSaid : Prop := Claim7.holds Tryd.pinned (.plain (OpenSpec.upto asmLaysSpec)) asmLaysUptoCard

/-- THE SECOND FORM's CARD OF 'nostoslaw10.AsmFetches'. -/
def asmFetchesUptoCard : Claim7 := { stood := { row := asmFetchesUptoRow, standIns := [], harness := (true, "961e839cc12026cbaef8b63ef80415f98936f9fe6d737958e1b5d0b4db23427f"), looks := false }, kinds := [], alts := [], laidByText := true, laidKinds := [.listed, .data], laidTests := true, laidLooks := .later }
def AsmFetchesUptoCardSaid : Prop := Claim7.holds Tryd.pinned (.plain (OpenSpec.upto asmFetchesSpec)) asmFetchesUptoCard

/-- THE SECOND FORM's CARD OF 'nostoslaw10.AsmUp'. -/
def asmUpUptoCard : Claim7 := { stood := { row := asmUpUptoRow, standIns := [], harness := (true, "961e839cc12026cbaef8b63ef80415f98936f9fe6d737958e1b5d0b4db23427f"), looks := false }, kinds := [], alts := [], laidByText := true, laidKinds := [.listed, .data], laidTests := true, laidLooks := .later }
def AsmUpUptoCardSaid : Prop := Claim7.holds Tryd.pinned (.plain (OpenSpec.upto asmUpSpec)) asmUpUptoCard

/-- THE SECOND FORM's CARD OF 'nostoslaw10.AsmBack'. -/
def asmBackUptoCard : Claim7 := { stood := { row := asmBackUptoRow, standIns := [], harness := (true, "961e839cc12026cbaef8b63ef80415f98936f9fe6d737958e1b5d0b4db23427f"), looks := false }, kinds := [], alts := [], laidByText := true, laidKinds := [.listed, .data], laidTests := true, laidLooks := .later }
def AsmBackUptoCardSaid : Prop := Claim7.holds Tryd.pinned (.plain (OpenSpec.upto asmBackSpec)) asmBackUptoCard

/-- THE SECOND FORM's CARD OF 'nostoslaw10.AsmWalk'. -/
def asmWalkUptoCard : Claim7 := { stood := { row := asmWalkUptoRow, standIns := [], harness := (true, "961e839cc12026cbaef8b63ef80415f98936f9fe6d737958e1b5d0b4db23427f"), looks := false }, kinds := [], alts := [], laidByText := true, laidKinds := [.listed, .data], laidTests := true, laidLooks := .later }
def AsmWalkUptoCardSaid : Prop := Claim7.holds Tryd.pinned (.plain (OpenSpec.upto asmWalkSpec)) asmWalkUptoCard
end Rows
end Go.Proofs.YtiliddklaklekaaDoor
