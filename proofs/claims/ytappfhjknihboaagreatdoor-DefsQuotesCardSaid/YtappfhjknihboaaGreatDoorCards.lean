/-
  DERIVED. GIVEN WITH THE SEED: THE CARDS: each row of YtappfhjknihboaaGreatDoorRows.lean that lists a variable, with what it lists TIED to the program's text (the seventh form; the later family's looks); each row that meets fmt, with fmt's text TOLD by the authors' own Lean function (tested against real Go, not proved from fmt's source: count such statements apart). THE CARD IS WHAT COUNTS. Prove the row's statement (the work); the ties are given (YtappfhjknihboaaGreatDoorTie.lean); close each card by the builder's one call (the guide's Derived/Test/ToyasCard.lean, 'card_holds'). Laid BY PROGRAM, IN A SANDBOX (cutbox-door.mjs). By AI agents, Wed Nov 11 2026. No macro, syntax, notation, axiom, sorry.
-/
import Derived.Test.YtappfhjknihboaaGreatDoorRows
import GoSem.ClaimSeven
namespace Go.Proofs.YtappfhjknihboaaGreatDoor
namespace Rows

/-- THE TIED CARD OF 'nostoslaw12.DefsDoes'. -/
def defsDoesCard : Claim7 := { stood := { row := defsDoesRow, standIns := [], harness := (true, "764b4680aa66ccbd2acafcde96915bfa75aad3d2bbe556c9c6fbcfcaf4ec5a8f"), looks := false }, kinds := [], alts := [], laidByText := true, laidKinds := [.listed, .data], laidTests := true, laidLooks := .later }
def DefsDoesCardSaid : Prop := Claim7.holds Tryz.pinned (.plain (OpenSpec.ofChange defsDoesSpec)) defsDoesCard

/-- THE TIED CARD OF 'nostoslaw12.DefsFinds'. -/
def defsFindsCard : Claim7 := { stood := { row := defsFindsRow, standIns := [], harness := (true, "764b4680aa66ccbd2acafcde96915bfa75aad3d2bbe556c9c6fbcfcaf4ec5a8f"), looks := false }, kinds := [], alts := [], laidByText := true, laidKinds := [.listed, .data], laidTests := true, laidLooks := .later }
def DefsFindsCardSaid : Prop := Claim7.holds Tryz.pinned (.plain (OpenSpec.ofChange defsFindsSpec)) defsFindsCard

/-- THE TIED CARD OF 'nostoslaw12.DefsMakes'. -/
def defsMakesCard : Claim7 := { stood := { row := defsMakesRow, standIns := [], harness := (true, "764b4680aa66ccbd2acafcde96915bfa75aad3d2bbe556c9c6fbcfcaf4ec5a8f"), looks := false }, kinds := [], alts := [], laidByText := true, laidKinds := [.listed, .data], laidTests := true, laidLooks := .later }
def DefsMakesCardSaid : Prop := Claim7.holds Tryz.pinned (.plain (OpenSpec.ofChange defsMakesSpec)) defsMakesCard

/-- THE TIED CARD OF 'nostoslaw12.DefsStays'. -/
def defsStaysCard : Claim7 := { stood := { row := defsStaysRow, standIns := [], harness := (true, "764b4680aa66ccbd2acafcde96915bfa75aad3d2bbe556c9c6fbcfcaf4ec5a8f"), looks := false }, kinds := [], alts := [], laidByText := true, laidKinds := [.listed, .data], laidTests := true, laidLooks := .later }
def DefsStaysCardSaid : Prop := Claim7.holds Tryz.pinned (.plain (OpenSpec.ofChange defsStaysSpec)) defsStaysCard

/-- THE TIED CARD OF 'nostoslaw12.DefsQuotes'. -/
def defsQuotesCard : Claim7 := { stood := { row := defsQuotesRow, standIns := [], harness := (true, "764b4680aa66ccbd2acafcde96915bfa75aad3d2bbe556c9c6fbcfcaf4ec5a8f"), looks := false }, kinds := [], alts := [], laidByText := true, laidKinds := [.listed, .data], laidTests := true, laidLooks := .later }
def DefsQuotesCardSaid : Prop := Claim7.holds Tryz.pinned (.plain (OpenSpec.ofChange defsQuotesSpec)) defsQuotesCard

/-- THE SECOND FORM's CARD OF 'nostoslaw12.DefsDoes'. -/
def defsDoesUptoCard : Claim7 := { stood := { row := defsDoesUptoRow, standIns := [], harness := (true, "764b4680aa66ccbd2acafcde96915bfa75aad3d2bbe556c9c6fbcfcaf4ec5a8f"), looks := false }, kinds := [], alts := [], laidByText := true, laidKinds := [.listed, .data], laidTests := true, laidLooks := .later }
def DefsDoesUptoCardSaid : Prop := Claim7.holds Tryz.pinned (.plain (OpenSpec.upto defsDoesSpec)) defsDoesUptoCard

/-- THE SECOND FORM's CARD OF 'nostoslaw12.DefsFinds'. -/
def defsFindsUptoCard : Claim7 := { stood := { row := defsFindsUptoRow, standIns := [], harness := (true, "764b4680aa66ccbd2acafcde96915bfa75aad3d2bbe556c9c6fbcfcaf4ec5a8f"), looks := false }, kinds := [], alts := [], laidByText := true, laidKinds := [.listed, .data], laidTests := true, laidLooks := .later }
def DefsFindsUptoCardSaid : Prop := Claim7.holds Tryz.pinned (.plain (OpenSpec.upto defsFindsSpec)) defsFindsUptoCard

/-- THE SECOND FORM's CARD OF 'nostoslaw12.DefsMakes'. -/
def defsMakesUptoCard : Claim7 := { stood := { row := defsMakesUptoRow, standIns := [], harness := (true, "764b4680aa66ccbd2acafcde96915bfa75aad3d2bbe556c9c6fbcfcaf4ec5a8f"), looks := false }, kinds := [], alts := [], laidByText := true, laidKinds := [.listed, .data], laidTests := true, laidLooks := .later }
def DefsMakesUptoCardSaid : Prop := Claim7.holds Tryz.pinned (.plain (OpenSpec.upto defsMakesSpec)) defsMakesUptoCard

/-- THE SECOND FORM's CARD OF 'nostoslaw12.DefsStays'. -/
def defsStaysUptoCard : Claim7 := { stood := { row := defsStaysUptoRow, standIns := [], harness := (true, "764b4680aa66ccbd2acafcde96915bfa75aad3d2bbe556c9c6fbcfcaf4ec5a8f"), looks := false }, kinds := [], alts := [], laidByText := true, laidKinds := [.listed, .data], laidTests := true, laidLooks := .later }
def DefsStaysUptoCardSaid : Prop := Claim7.holds Tryz.pinned (.plain (OpenSpec.upto defsStaysSpec)) defsStaysUptoCard

/-- THE SECOND FORM's CARD OF 'nostoslaw12.DefsQuotes'. -/
def defsQuotesUptoCard : Claim7 := { stood := { row := defsQuotesUptoRow, standIns := [], harness := (true, "764b4680aa66ccbd2acafcde96915bfa75aad3d2bbe556c9c6fbcfcaf4ec5a8f"), looks := false }, kinds := [], alts := [], laidByText := true, laidKinds := [.listed, .data], laidTests := true, laidLooks := .later }
def DefsQuotesUptoCardSaid : Prop := Claim7.holds Tryz.pinned (.plain (OpenSpec.upto defsQuotesSpec)) defsQuotesUptoCard
end Rows
end Go.Proofs.YtappfhjknihboaaGreatDoor
