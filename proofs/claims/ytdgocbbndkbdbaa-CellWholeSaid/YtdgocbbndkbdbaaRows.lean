/-
  No cell of these rows narrows 'for every input' (looked for: loops, veiled, ifaces, maps, wideKeys, modest, calm, conditions, laid).
  DERIVED. THE GIVEN ROWS OF THIS SEAT. 5 by the template 'for every input the law returns true; each argument reads behind the call as it read before'; 0 by the template 'total and deterministic' (their statements: YtdgocbbndkbdbaaTotals.lean).
  GIVEN WITH THE SEED: the statements are not yours to turn. If you find one false, say at which input.
  Laid BY PROGRAM, IN A SANDBOX (cutbox-rows.mjs): the forced cells as the released guide's own fill.sh prints them over the translation f9d9997d849c027c… (all of the seat's roots in one cut). By AI agents, Wed Nov 11 2026. No macro, syntax, notation, axiom, sorry.
-/
import Derived.Test.YtdgocbbndkbdbaaChecked
import GoSem.Claim
import GoSem.ClaimJoined
import GoSem.ClaimMapViews
import Derived.JoinedTies
import Derived.KernelRfl
namespace Go.Proofs.Ytdgocbbndkbdbaa
/- THE CELL 'sum', in the pinned program and in every row, IS THE sha256 OF THE DUMP (.gsa) THAT YtdgocbbndkbdbaaProg.lean LOADS. Nothing in Lean hashes anything: it is a label: what it is worth is what the hold of that sum in a sandbox is worth. -/
noncomputable def Try.pinned : Pinned := { name := "ytdgocbbndkbdbaa", sum := "f9d9997d849c027c7fafcf3f472b866a8f796b9c98a4dca2a674fecab75566ff", checked := Try.checked }
namespace Rows
def none {H : Type} : Left H := { results := [], args := [] }

/-- 'nostoslaw01.CellTells': WHATEVER THE INPUT: true; the input reads as it did. -/
def cellTellsSpec : ChangeSpec := { name := "cellTells", fn := fun _ => fun
  | [d1, d2, d3] => { results := [.lit (.bool true)], args := [d1, d2, d3] }
  | _ => none }
def cellTellsRow : OpenClaim := { program := "ytdgocbbndkbdbaa", sum := "f9d9997d849c027c7fafcf3f472b866a8f796b9c98a4dca2a674fecab75566ff", func := "nostos/nostoslaw01.CellTells", spec := "cellTells", unfollowed := true, recurses := true, named := ["math/bits.divideError", "math/bits.overflowError"], apart := false }
def CellTellsSaid : Prop := cellTellsRow.holds Try.pinned (OpenSpec.ofChange cellTellsSpec)

/-- ITS FALSE NEIGHBOUR: 'it returns false'. Refute it at one input. -/
def cellTellsWrong : ChangeSpec := { name := "cellTells", fn := fun _ => fun
  | [d1, d2, d3] => { results := [.lit (.bool false)], args := [d1, d2, d3] }
  | _ => none }
def CellTellsWrongFalsely : Prop := cellTellsRow.holds Try.pinned (OpenSpec.ofChange cellTellsWrong)

/-- 'nostoslaw01.CellDivides': WHATEVER THE INPUT: true; the input reads as it did. -/
def cellDividesSpec : ChangeSpec := { name := "cellDivides", fn := fun _ => fun
  | [d1, d2] => { results := [.lit (.bool true)], args := [d1, d2] }
  | _ => none }
def cellDividesRow : OpenClaim := { program := "ytdgocbbndkbdbaa", sum := "f9d9997d849c027c7fafcf3f472b866a8f796b9c98a4dca2a674fecab75566ff", func := "nostos/nostoslaw01.CellDivides", spec := "cellDivides", unfollowed := true, recurses := true, named := ["math/bits.divideError", "math/bits.overflowError"], apart := false }
def CellDividesSaid : Prop := cellDividesRow.holds Try.pinned (OpenSpec.ofChange cellDividesSpec)

/-- ITS FALSE NEIGHBOUR: 'it returns false'. Refute it at one input. -/
def cellDividesWrong : ChangeSpec := { name := "cellDivides", fn := fun _ => fun
  | [d1, d2] => { results := [.lit (.bool false)], args := [d1, d2] }
  | _ => none }
def CellDividesWrongFalsely : Prop := cellDividesRow.holds Try.pinned (OpenSpec.ofChange cellDividesWrong)

/-- 'nostoslaw01.CellScales': WHATEVER THE INPUT: true; the input reads as it did. -/
def cellScalesSpec : ChangeSpec := { name := "cellScales", fn := fun _ => fun
  | [d1, d2, d3] => { results := [.lit (.bool true)], args := [d1, d2, d3] }
  | _ => none }
def cellScalesRow : OpenClaim := { program := "ytdgocbbndkbdbaa", sum := "f9d9997d849c027c7fafcf3f472b866a8f796b9c98a4dca2a674fecab75566ff", func := "nostos/nostoslaw01.CellScales", spec := "cellScales", unfollowed := true, recurses := true, named := ["math/bits.divideError", "math/bits.overflowError"], apart := false }
def CellScalesSaid : Prop := cellScalesRow.holds Try.pinned (OpenSpec.ofChange cellScalesSpec)

/-- ITS FALSE NEIGHBOUR: 'it returns false'. Refute it at one input. -/
def cellScalesWrong : ChangeSpec := { name := "cellScales", fn := fun _ => fun
  | [d1, d2, d3] => { results := [.lit (.bool false)], args := [d1, d2, d3] }
  | _ => none }
def CellScalesWrongFalsely : Prop := cellScalesRow.holds Try.pinned (OpenSpec.ofChange cellScalesWrong)

/-- 'nostoslaw01.CellWhole': WHATEVER THE INPUT: true; the input reads as it did. -/
def cellWholeSpec : ChangeSpec := { name := "cellWhole", fn := fun _ => fun
  | [d1, d2, d3] => { results := [.lit (.bool true)], args := [d1, d2, d3] }
  | _ => none }
def cellWholeRow : OpenClaim := { program := "ytdgocbbndkbdbaa", sum := "f9d9997d849c027c7fafcf3f472b866a8f796b9c98a4dca2a674fecab75566ff", func := "nostos/nostoslaw01.CellWhole", spec := "cellWhole", unfollowed := true, recurses := true, named := ["math/bits.divideError", "math/bits.overflowError"], apart := false }
def CellWholeSaid : Prop := cellWholeRow.holds Try.pinned (OpenSpec.ofChange cellWholeSpec)

/-- ITS FALSE NEIGHBOUR: 'it returns false'. Refute it at one input. -/
def cellWholeWrong : ChangeSpec := { name := "cellWhole", fn := fun _ => fun
  | [d1, d2, d3] => { results := [.lit (.bool false)], args := [d1, d2, d3] }
  | _ => none }
def CellWholeWrongFalsely : Prop := cellWholeRow.holds Try.pinned (OpenSpec.ofChange cellWholeWrong)

/-- 'nostoslaw01.CellShifts': WHATEVER THE INPUT: true; the input reads as it did. -/
def cellShiftsSpec : ChangeSpec := { name := "cellShifts", fn := fun _ => fun
  | [d1, d2] => { results := [.lit (.bool true)], args := [d1, d2] }
  | _ => none }
def cellShiftsRow : OpenClaim := { program := "ytdgocbbndkbdbaa", sum := "f9d9997d849c027c7fafcf3f472b866a8f796b9c98a4dca2a674fecab75566ff", func := "nostos/nostoslaw01.CellShifts", spec := "cellShifts", unfollowed := true, recurses := true, named := ["math/bits.divideError", "math/bits.overflowError"], apart := false }
def CellShiftsSaid : Prop := cellShiftsRow.holds Try.pinned (OpenSpec.ofChange cellShiftsSpec)

/-- ITS FALSE NEIGHBOUR: 'it returns false'. Refute it at one input. -/
def cellShiftsWrong : ChangeSpec := { name := "cellShifts", fn := fun _ => fun
  | [d1, d2] => { results := [.lit (.bool false)], args := [d1, d2] }
  | _ => none }
def CellShiftsWrongFalsely : Prop := cellShiftsRow.holds Try.pinned (OpenSpec.ofChange cellShiftsWrong)

/- THE SECOND FORM. 'bulk': how many values and letters a reading holds, each counted each time it is reached (what is shared counts as often as it is met; a slice's spare places count too). A statement '..UptoSaid' is the law's where the arguments, and the package variables that the reading takes, are together of bulk at most 1048576: NARROWER than '..Said'. Prove '..Said' where nothing that the law and all that it calls make is longer than what came in: it says more and counts as full. Else prove '..UptoSaid'. A law counts once. -/
mutual
def uptoBulk {H : Type} : DataW H → Nat
  | .lit (.string bytes) => bytes.length + 1
  | .lit _ => 1
  | .nil => 1
  | .ptr d => uptoBulk d + 1
  | .slice elems spare => uptoBulkAll elems + uptoBulkAll spare + 1
  | .agg parts => uptoBulkAll parts + 1
  | .iface _ d => uptoBulk d + 1
  | .map entries => uptoBulkEntries entries + 1
  | .held _ => 1
def uptoBulkAll {H : Type} : List (DataW H) → Nat
  | [] => 0
  | d :: r => uptoBulk d + uptoBulkAll r
def uptoBulkEntries {H : Type} : List (Lit × DataW H) → Nat
  | [] => 0
  | x :: r => uptoBulkEntry x + uptoBulkEntries r
def uptoBulkEntry {H : Type} : Lit × DataW H → Nat
  | (.string bytes, d) => bytes.length + uptoBulk d + 1
  | (_, d) => uptoBulk d + 1
 end
def uptoSmall : (H : Type) → List (DataW H) → Bool := fun _ ds => decide (uptoBulkAll ds ≤ 1048576)
def OpenSpec.upto (s : _root_.Go.ChangeSpec) : _root_.Go.OpenSpec := { _root_.Go.OpenSpec.ofChange s with cond := some uptoSmall }

/-- 'nostoslaw01.CellTells', WHERE WHAT IT READS IS OF BULK AT MOST 1048576: true; the input reads as it did. -/
def cellTellsUptoRow : OpenClaim := { program := "ytdgocbbndkbdbaa", sum := "f9d9997d849c027c7fafcf3f472b866a8f796b9c98a4dca2a674fecab75566ff", func := "nostos/nostoslaw01.CellTells", spec := "cellTells", unfollowed := true, recurses := true, named := ["math/bits.divideError", "math/bits.overflowError"], apart := false, narrowed := true }
def CellTellsUptoSaid : Prop := cellTellsUptoRow.holds Try.pinned (OpenSpec.upto cellTellsSpec)

/-- 'nostoslaw01.CellDivides', WHERE WHAT IT READS IS OF BULK AT MOST 1048576: true; the input reads as it did. -/
def cellDividesUptoRow : OpenClaim := { program := "ytdgocbbndkbdbaa", sum := "f9d9997d849c027c7fafcf3f472b866a8f796b9c98a4dca2a674fecab75566ff", func := "nostos/nostoslaw01.CellDivides", spec := "cellDivides", unfollowed := true, recurses := true, named := ["math/bits.divideError", "math/bits.overflowError"], apart := false, narrowed := true }
def CellDividesUptoSaid : Prop := cellDividesUptoRow.holds Try.pinned (OpenSpec.upto cellDividesSpec)

/-- 'nostoslaw01.CellScales', WHERE WHAT IT READS IS OF BULK AT MOST 1048576: true; the input reads as it did. -/
def cellScalesUptoRow : OpenClaim := { program := "ytdgocbbndkbdbaa", sum := "f9d9997d849c027c7fafcf3f472b866a8f796b9c98a4dca2a674fecab75566ff", func := "nostos/nostoslaw01.CellScales", spec := "cellScales", unfollowed := true, recurses := true, named := ["math/bits.divideError", "math/bits.overflowError"], apart := false, narrowed := true }
def CellScalesUptoSaid : Prop := cellScalesUptoRow.holds Try.pinned (OpenSpec.upto cellScalesSpec)

/-- 'nostoslaw01.CellWhole', WHERE WHAT IT READS IS OF BULK AT MOST 1048576: true; the input reads as it did. -/
def cellWholeUptoRow : OpenClaim := { program := "ytdgocbbndkbdbaa", sum := "f9d9997d849c027c7fafcf3f472b866a8f796b9c98a4dca2a674fecab75566ff", func := "nostos/nostoslaw01.CellWhole", spec := "cellWhole", unfollowed := true, recurses := true, named := ["math/bits.divideError", "math/bits.overflowError"], apart := false, narrowed := true }
def CellWholeUptoSaid : Prop := cellWholeUptoRow.holds Try.pinned (OpenSpec.upto cellWholeSpec)

/-- 'nostoslaw01.CellShifts', WHERE WHAT IT READS IS OF BULK AT MOST 1048576: true; the input reads as it did. -/
def cellShiftsUptoRow : OpenClaim := { program := "ytdgocbbndkbdbaa", sum := "f9d9997d849c027c7fafcf3f472b866a8f796b9c98a4dca2a674fecab75566ff", func := "nostos/nostoslaw01.CellShifts", spec := "cellShifts", unfollowed := true, recurses := true, named := ["math/bits.divideError", "math/bits.overflowError"], apart := false, narrowed := true }
def CellShiftsUptoSaid : Prop := cellShiftsUptoRow.holds Try.pinned (OpenSpec.upto cellShiftsSpec)

end Rows
end Go.Proofs.Ytdgocbbndkbdbaa
