/-
  DERIVED. GIVEN WITH THE SEED: THE CARDS: each row of YtfkkmlgblhnkaaaDoorRows.lean that lists a variable, with what it lists TIED to the program's text (the seventh form; the later family's looks); each row that meets fmt, with fmt's text TOLD by the authors' own Lean function (tested against real Go, not proved from fmt's source: count such statements apart). THE CARD IS WHAT COUNTS. Prove the row's statement (the work); the ties are given (YtfkkmlgblhnkaaaDoorTie.lean); close each card by the builder's one call (the guide's Derived/Test/ToyasCard.lean, 'card_holds'). Laid BY PROGRAM, IN A SANDBOX (cutbox-door.mjs). By AI agents, Wed Nov 11 2026. No macro, syntax, notation, axiom, sorry.
-/
import Derived.Test.YtfkkmlgblhnkaaaDoorRows
import GoSem.ClaimSeven
namespace Go.Proofs.YtfkkmlgblhnkaaaDoor
namespace Rows

/-- THE TIED CARD OF 'nostoslaw11.FlowDoes'. -/
def flowDoesCard : Claim7 := { stood := { row := flowDoesRow, standIns := [], harness := (true, "f3f2b75b8fc397f3d2f26ea97f6eb4f70b7f640fd2b20bf7410f9139b8af2ab6"), looks := false }, kinds := [], alts := [], laidByText := true, laidKinds := [.listed, .data], laidTests := true, laidLooks := .later }
def FlowDoesCardSaid : Prop := Claim7.holds Tryd.pinned (.plain (OpenSpec.ofChange flowDoesSpec)) flowDoesCard

/-- THE TIED CARD OF 'nostoslaw11.FlowRuns'. -/
def flowRunsCard : Claim7 := { stood := { row := flowRunsRow, standIns := [], harness := (true, "f3f2b75b8fc397f3d2f26ea97f6eb4f70b7f640fd2b20bf7410f9139b8af2ab6"), looks := false }, kinds := [], alts := [], laidByText := true, laidKinds := [.listed, .data], laidTests := true, laidLooks := .later }
def FlowRunsCardSaid : Prop := Claim7.holds Tryd.pinned (.plain (OpenSpec.ofChange flowRunsSpec)) flowRunsCard

/-- THE TIED CARD OF 'nostoslaw11.FlowCloses'. -/
def flowClosesCard : Claim7 := { stood := { row := flowClosesRow, standIns := [], harness := (true, "f3f2b75b8fc397f3d2f26ea97f6eb4f70b7f640fd2b20bf7410f9139b8af2ab6"), looks := false }, kinds := [], alts := [], laidByText := true, laidKinds := [.listed, .data], laidTests := true, laidLooks := .later }
def FlowClosesCardSaid : Prop := Claim7.holds Tryd.pinned (.plain (OpenSpec.ofChange flowClosesSpec)) flowClosesCard

/-- THE TIED CARD OF 'nostoslaw11.FlowSettles'. -/
def flowSettlesCard : Claim7 := { stood := { row := flowSettlesRow, standIns := [], harness := (true, "f3f2b75b8fc397f3d2f26ea97f6eb4f70b7f640fd2b20bf7410f9139b8af2ab6"), looks := false }, kinds := [], alts := [], laidByText := true, laidKinds := [.listed, .data], laidTests := true, laidLooks := .later }
def FlowSettlesCardSaid : Prop := Claim7.holds Tryd.pinned (.plain (OpenSpec.ofChange flowSettlesSpec)) flowSettlesCard

/-- THE TIED CARD OF 'nostoslaw11.FlowMisses'. -/
def flowMissesCard : Claim7 := { stood := { row := flowMissesRow, standIns := [], harness := (true, "f3f2b75b8fc397f3d2f26ea97f6eb4f70b7f640fd2b20bf7410f9139b8af2ab6"), looks := false }, kinds := [], alts := [], laidByText := true, laidKinds := [.listed, .data], laidTests := true, laidLooks := .later }
def FlowMissesCardSaid : Prop := Claim7.holds Tryd.pinned (.plain (OpenSpec.ofChange flowMissesSpec)) flowMissesCard

/-- THE SECOND FORM's CARD OF 'nostoslaw11.FlowDoes'. -/
def flowDoesUptoCard : Claim7 := { stood := { row := flowDoesUptoRow, standIns := [], harness := (true, "f3f2b75b8fc397f3d2f26ea97f6eb4f70b7f640fd2b20bf7410f9139b8af2ab6"), looks := false }, kinds := [], alts := [], laidByText := true, laidKinds := [.listed, .data], laidTests := true, laidLooks := .later }
def FlowDoesUptoCardSaid : Prop := Claim7.holds Tryd.pinned (.plain (OpenSpec.upto flowDoesSpec)) flowDoesUptoCard

/-- THE SECOND FORM's CARD OF 'nostoslaw11.FlowRuns'. -/
def flowRunsUptoCard : Claim7 := { stood := { row := flowRunsUptoRow, standIns := [], harness := (true, "f3f2b75b8fc397f3d2f26ea97f6eb4f70b7f640fd2b20bf7410f9139b8af2ab6"), looks := false }, kinds := [], alts := [], laidByText := true, laidKinds := [.listed, .data], laidTests := true, laidLooks := .later }
def FlowRunsUptoCardSaid : Prop := Claim7.holds Tryd.pinned (.plain (OpenSpec.upto flowRunsSpec)) flowRunsUptoCard

/-- THE SECOND FORM's CARD OF 'nostoslaw11.FlowCloses'. -/
def flowClosesUptoCard : Claim7 := { stood := { row := flowClosesUptoRow, standIns := [], harness := (true, "f3f2b75b8fc397f3d2f26ea97f6eb4f70b7f640fd2b20bf7410f9139b8af2ab6"), looks := false }, kinds := [], alts := [], laidByText := true, laidKinds := [.listed, .data], laidTests := true, laidLooks := .later }
def FlowClosesUptoCardSaid : Prop := Claim7.holds Tryd.pinned (.plain (OpenSpec.upto flowClosesSpec)) flowClosesUptoCard

/-- THE SECOND FORM's CARD OF 'nostoslaw11.FlowSettles'. -/
def flowSettlesUptoCard : Claim7 := { stood := { row := flowSettlesUptoRow, standIns := [], harness := (true, "f3f2b75b8fc397f3d2f26ea97f6eb4f70b7f640fd2b20bf7410f9139b8af2ab6"), looks := false }, kinds := [], alts := [], laidByText := true, laidKinds := [.listed, .data], laidTests := true, laidLooks := .later }
def FlowSettlesUptoCardSaid : Prop := Claim7.holds Tryd.pinned (.plain (OpenSpec.upto flowSettlesSpec)) flowSettlesUptoCard

/-- THE SECOND FORM's CARD OF 'nostoslaw11.FlowMisses'. -/
def flowMissesUptoCard : Claim7 := { stood := { row := flowMissesUptoRow, standIns := [], harness := (true, "f3f2b75b8fc397f3d2f26ea97f6eb4f70b7f640fd2b20bf7410f9139b8af2ab6"), looks := false }, kinds := [], alts := [], laidByText := true, laidKinds := [.listed, .data], laidTests := true, laidLooks := .later }
def FlowMissesUptoCardSaid : Prop := Claim7.holds Tryd.pinned (.plain (OpenSpec.upto flowMissesSpec)) flowMissesUptoCard
end Rows
end Go.Proofs.YtfkkmlgblhnkaaaDoor
