/-
  DERIVED. GIVEN WITH THE SEED: THE CARDS: each row of YtcnmdagbmngaeaaDoorRows.lean that lists a variable, with what it lists TIED to the program's text (the seventh form; the later family's looks); each row that meets fmt, with fmt's text TOLD by the authors' own Lean function (tested against real Go, not proved from fmt's source: count such statements apart). THE CARD IS WHAT COUNTS. Prove the row's statement (the work); the ties are given (YtcnmdagbmngaeaaDoorTie.lean); close each card by the builder's one call (the guide's Derived/Test/ToyasCard.lean, 'card_holds'). Laid BY PROGRAM, IN A SANDBOX (cutbox-door.mjs). By AI agents, Wed Nov 11 2026. No macro, syntax, notation, axiom, sorry.
-/
import Derived.Test.YtcnmdagbmngaeaaDoorRows
import GoSem.ClaimSeven
namespace Go.Proofs.YtcnmdagbmngaeaaDoor
namespace Rows

/-- THE TIED CARD OF 'nostoslaw08.OpsTells'. -/
def opsTellsCard : Claim7 := { stood := { row := opsTellsRow, standIns := [], harness := (true, "a0e99d4f33c815118189c26d27e129fd32c0e593ef713694d0fb5a47ed181edf"), looks := false }, kinds := [], alts := [], laidByText := true, laidKinds := [.listed, .data], laidTests := true, laidLooks := .later }
def OpsTellsCardSaid : Prop := Claim7.holds Tryd.pinned (.plain (OpenSpec.ofChange opsTellsSpec)) opsTellsCard

/-- THE TIED CARD OF 'nostoslaw08.OpsFinds'. -/
def opsFindsCard : Claim7 := { stood := { row := opsFindsRow, standIns := [], harness := (true, "a0e99d4f33c815118189c26d27e129fd32c0e593ef713694d0fb5a47ed181edf"), looks := false }, kinds := [], alts := [], laidByText := true, laidKinds := [.listed, .data], laidTests := true, laidLooks := .later }
def OpsFindsCardSaid : Prop := Claim7.holds Tryd.pinned (.plain (OpenSpec.ofChange opsFindsSpec)) opsFindsCard

/-- THE TIED CARD OF 'nostoslaw08.OpsBack'. -/
def opsBackCard : Claim7 := { stood := { row := opsBackRow, standIns := [], harness := (true, "a0e99d4f33c815118189c26d27e129fd32c0e593ef713694d0fb5a47ed181edf"), looks := false }, kinds := [], alts := [], laidByText := true, laidKinds := [.listed, .data], laidTests := true, laidLooks := .later }
def OpsBackCardSaid : Prop := Claim7.holds Tryd.pinned (.plain (OpenSpec.ofChange opsBackSpec)) opsBackCard

/-- THE TIED CARD OF 'nostoslaw08.OpsKinds'. -/
def opsKindsCard : Claim7 := { stood := { row := opsKindsRow, standIns := [], harness := (true, "a0e99d4f33c815118189c26d27e129fd32c0e593ef713694d0fb5a47ed181edf"), looks := false }, kinds := [], alts := [], laidByText := true, laidKinds := [.listed, .data], laidTests := true, laidLooks := .later }
def OpsKindsCardSaid : Prop := Claim7.holds Tryd.pinned (.plain (OpenSpec.ofChange opsKindsSpec)) opsKindsCard

/-- THE TIED CARD OF 'nostoslaw08.OpsApart'. -/
def opsApartCard : Claim7 := { stood := { row := opsApartRow, standIns := [], harness := (true, "a0e99d4f33c815118189c26d27e129fd32c0e593ef713694d0fb5a47ed181edf"), looks := false }, kinds := [], alts := [], laidByText := true, laidKinds := [.listed, .data], laidTests := true, laidLooks := .later }
def OpsApartCardSaid : Prop := Claim7.holds Tryd.pinned (.plain (OpenSpec.ofChange opsApartSpec)) opsApartCard

/-- THE SECOND FORM's CARD OF 'nostoslaw08.OpsTells'. -/
def opsTellsUptoCard : Claim7 := { stood := { row := opsTellsUptoRow, standIns := [], harness := (true, "a0e99d4f33c815118189c26d27e129fd32c0e593ef713694d0fb5a47ed181edf"), looks := false }, kinds := [], alts := [], laidByText := true, laidKinds := [.listed, .data], laidTests := true, laidLooks := .later }
def OpsTellsUptoCardSaid : Prop := Claim7.holds Tryd.pinned (.plain (OpenSpec.upto opsTellsSpec)) opsTellsUptoCard

/-- THE SECOND FORM's CARD OF 'nostoslaw08.OpsFinds'. -/
def opsFindsUptoCard : Claim7 := { stood := { row := opsFindsUptoRow, standIns := [], harness := (true, "a0e99d4f33c815118189c26d27e129fd32c0e593ef713694d0fb5a47ed181edf"), looks := false }, kinds := [], alts := [], laidByText := true, laidKinds := [.listed, .data], laidTests := true, laidLooks := .later }
def OpsFindsUptoCardSaid : Prop := Claim7.holds Tryd.pinned (.plain (OpenSpec.upto opsFindsSpec)) opsFindsUptoCard

/-- THE SECOND FORM's CARD OF 'nostoslaw08.OpsBack'. -/
def opsBackUptoCard : Claim7 := { stood := { row := opsBackUptoRow, standIns := [], harness := (true, "a0e99d4f33c815118189c26d27e129fd32c0e593ef713694d0fb5a47ed181edf"), looks := false }, kinds := [], alts := [], laidByText := true, laidKinds := [.listed, .data], laidTests := true, laidLooks := .later }
def OpsBackUptoCardSaid : Prop := Claim7.holds Tryd.pinned (.plain (OpenSpec.upto opsBackSpec)) opsBackUptoCard

/-- THE SECOND FORM's CARD OF 'nostoslaw08.OpsKinds'. -/
def opsKindsUptoCard : Claim7 := { stood := { row := opsKindsUptoRow, standIns := [], harness := (true, "a0e99d4f33c815118189c26d27e129fd32c0e593ef713694d0fb5a47ed181edf"), looks := false }, kinds := [], alts := [], laidByText := true, laidKinds := [.listed, .data], laidTests := true, laidLooks := .later }
def OpsKindsUptoCardSaid : Prop := Claim7.holds Tryd.pinned (.plain (OpenSpec.upto opsKindsSpec)) opsKindsUptoCard

/-- THE SECOND FORM's CARD OF 'nostoslaw08.OpsApart'. -/
def opsApartUptoCard : Claim7 := { stood := { row := opsApartUptoRow, standIns := [], harness := (true, "a0e99d4f33c815118189c26d27e129fd32c0e593ef713694d0fb5a47ed181edf"), looks := false }, kinds := [], alts := [], laidByText := true, laidKinds := [.listed, .data], laidTests := true, laidLooks := .later }
def OpsApartUptoCardSaid : Prop := Claim7.holds Tryd.pinned (.plain (OpenSpec.upto opsApartSpec)) opsApartUptoCard
end Rows
end Go.Proofs.YtcnmdagbmngaeaaDoor
