/-
  DERIVED. GIVEN WITH THE SEED: THE CARDS: each row of YticebanhccgglaaDoorRows.lean that lists a variable, with what it lists TIED to the program's text (the seventh form; the later family's looks); each row that meets fmt, with fmt's text TOLD by the authors' own Lean function (tested against real Go, not proved from fmt's source: count such statements apart). THE CARD IS WHAT COUNTS. Prove the row's statement (the work); the ties are given (YticebanhccgglaaDoorTie.lean); close each card by the builder's one call (the guide's Derived/Test/ToyasCard.lean, 'card_holds'). Laid BY PROGRAM, IN A SANDBOX (cutbox-door.mjs). By AI agents, Wed Nov 11 2026. No macro, syntax, notation, axiom, sorry.
-/
import Derived.Test.YticebanhccgglaaDoorRows
import GoSem.ClaimSeven
namespace Go.Proofs.YticebanhccgglaaDoor
namespace Rows

/-- THE TIED CARD OF 'nostoslaw17.RlePuts'. -/
def rlePutsCard : Claim7 := { stood := { row := rlePutsRow, standIns := [], harness := (true, "4a023de83d21117a3d429e46e49734491bd95308a75bf8efb08154e0d7faceed"), looks := false }, kinds := [], alts := [], laidByText := true, laidKinds := [.data, .pinned], laidTests := true, laidLooks := .later }
def RlePutsCardSaid : Prop := Claim7.holds Tryd.pinned (.plain (OpenSpec.ofChange rlePutsSpec)) rlePutsCard

/-- THE TIED CARD OF 'nostoslaw17.RleTakes'. -/
def rleTakesCard : Claim7 := { stood := { row := rleTakesRow, standIns := [], harness := (true, "4a023de83d21117a3d429e46e49734491bd95308a75bf8efb08154e0d7faceed"), looks := false }, kinds := [], alts := [], laidByText := true, laidKinds := [.data, .pinned], laidTests := true, laidLooks := .later }
def RleTakesCardSaid : Prop := Claim7.holds Tryd.pinned (.plain (OpenSpec.ofChange rleTakesSpec)) rleTakesCard

/-- THE TIED CARD OF 'nostoslaw17.RleBack'. -/
def rleBackCard : Claim7 := { stood := { row := rleBackRow, standIns := [], harness := (true, "4a023de83d21117a3d429e46e49734491bd95308a75bf8efb08154e0d7faceed"), looks := false }, kinds := [], alts := [], laidByText := true, laidKinds := [.data, .pinned], laidTests := true, laidLooks := .later }
def RleBackCardSaid : Prop := Claim7.holds Tryd.pinned (.plain (OpenSpec.ofChange rleBackSpec)) rleBackCard

/-- THE TIED CARD OF 'nostoslaw17.RleOne'. -/
def rleOneCard : Claim7 := { stood := { row := rleOneRow, standIns := [], harness := (true, "4a023de83d21117a3d429e46e49734491bd95308a75bf8efb08154e0d7faceed"), looks := false }, kinds := [], alts := [], laidByText := true, laidKinds := [.data, .pinned], laidTests := true, laidLooks := .later }
def RleOneCardSaid : Prop := Claim7.holds Tryd.pinned (.plain (OpenSpec.ofChange rleOneSpec)) rleOneCard

/-- THE TIED CARD OF 'nostoslaw17.RleJoins'. -/
def rleJoinsCard : Claim7 := { stood := { row := rleJoinsRow, standIns := [], harness := (true, "4a023de83d21117a3d429e46e49734491bd95308a75bf8efb08154e0d7faceed"), looks := false }, kinds := [], alts := [], laidByText := true, laidKinds := [.data, .pinned], laidTests := true, laidLooks := .later }
def RleJoinsCardSaid : Prop := Claim7.holds Tryd.pinned (.plain (OpenSpec.ofChange rleJoinsSpec)) rleJoinsCard

/-- THE SECOND FORM's CARD OF 'nostoslaw17.RlePuts'. -/
def rlePutsUptoCard : Claim7 := { stood := { row := rlePutsUptoRow, standIns := [], harness := (true, "4a023de83d21117a3d429e46e49734491bd95308a75bf8efb08154e0d7faceed"), looks := false }, kinds := [], alts := [], laidByText := true, laidKinds := [.data, .pinned], laidTests := true, laidLooks := .later }
def RlePutsUptoCardSaid : Prop := Claim7.holds Tryd.pinned (.plain (OpenSpec.upto rlePutsSpec)) rlePutsUptoCard

/-- THE SECOND FORM's CARD OF 'nostoslaw17.RleTakes'. -/
def rleTakesUptoCard : Claim7 := { stood := { row := rleTakesUptoRow, standIns := [], harness := (true, "4a023de83d21117a3d429e46e49734491bd95308a75bf8efb08154e0d7faceed"), looks := false }, kinds := [], alts := [], laidByText := true, laidKinds := [.data, .pinned], laidTests := true, laidLooks := .later }
def RleTakesUptoCardSaid : Prop := Claim7.holds Tryd.pinned (.plain (OpenSpec.upto rleTakesSpec)) rleTakesUptoCard

/-- THE SECOND FORM's CARD OF 'nostoslaw17.RleBack'. -/
def rleBackUptoCard : Claim7 := { stood := { row := rleBackUptoRow, standIns := [], harness := (true, "4a023de83d21117a3d429e46e49734491bd95308a75bf8efb08154e0d7faceed"), looks := false }, kinds := [], alts := [], laidByText := true, laidKinds := [.data, .pinned], laidTests := true, laidLooks := .later }
def RleBackUptoCardSaid : Prop := Claim7.holds Tryd.pinned (.plain (OpenSpec.upto rleBackSpec)) rleBackUptoCard

/-- THE SECOND FORM's CARD OF 'nostoslaw17.RleOne'. -/
def rleOneUptoCard : Claim7 := { stood := { row := rleOneUptoRow, standIns := [], harness := (true, "4a023de83d21117a3d429e46e49734491bd95308a75bf8efb08154e0d7faceed"), looks := false }, kinds := [], alts := [], laidByText := true, laidKinds := [.data, .pinned], laidTests := true, laidLooks := .later }
def RleOneUptoCardSaid : Prop := Claim7.holds Tryd.pinned (.plain (OpenSpec.upto rleOneSpec)) rleOneUptoCard

/-- THE SECOND FORM's CARD OF 'nostoslaw17.RleJoins'. -/
def rleJoinsUptoCard : Claim7 := { stood := { row := rleJoinsUptoRow, standIns := [], harness := (true, "4a023de83d21117a3d429e46e49734491bd95308a75bf8efb08154e0d7faceed"), looks := false }, kinds := [], alts := [], laidByText := true, laidKinds := [.data, .pinned], laidTests := true, laidLooks := .later }
def RleJoinsUptoCardSaid : Prop := Claim7.holds Tryd.pinned (.plain (OpenSpec.upto rleJoinsSpec)) rleJoinsUptoCard
end Rows
end Go.Proofs.YticebanhccgglaaDoor
