/-
  No cell of these rows narrows 'for every input' (looked for: loops, veiled, ifaces, maps, wideKeys, modest, calm, conditions, laid).
  DERIVED. THE GIVEN ROWS OF THIS SEAT. 5 by the template 'for every input the law returns true; each argument reads behind the call as it read before'; 0 by the template 'total and deterministic' (their statements: YtheknfppofmneaaTotals.lean).
  GIVEN WITH THE SEED: the statements are not yours to turn. If you find one false, say at which input.
  Laid BY PROGRAM, IN A SANDBOX (cutbox-rows.mjs): the forced cells as the released guide's own fill.sh prints them over the translation 77f330163becf77f… (all of the seat's roots in one cut). By AI agents, Wed Nov 11 2026. No macro, syntax, notation, axiom, sorry.
-/
import Derived.Test.YtheknfppofmneaaChecked
import GoSem.Claim
import GoSem.ClaimJoined
import GoSem.ClaimMapViews
import Derived.JoinedTies
import Derived.KernelRfl
namespace Go.Proofs.Ytheknfppofmneaa
/- THE CELL 'sum', in the pinned program and in every row, IS THE sha256 OF THE DUMP (.gsa) THAT YtheknfppofmneaaProg.lean LOADS. Nothing in Lean hashes anything: it is a label: what it is worth is what the hold of that sum in a sandbox is worth. -/
noncomputable def Try.pinned : Pinned := { name := "ytheknfppofmneaa", sum := "77f330163becf77f718d583d362f0a819c7638fde73d7d85fe9bd547d7bda624", checked := Try.checked }
namespace Rows
def none {H : Type} : Left H := { results := [], args := [] }

/-- 'nostoslaw07.NamesFolds': WHATEVER THE INPUT: true; the input reads as it did. -/
def namesFoldsSpec : ChangeSpec := { name := "namesFolds", fn := fun _ => fun
  | [d] => { results := [.lit (.bool true)], args := [d] }
  | _ => none }
def namesFoldsRow : OpenClaim := { program := "ytheknfppofmneaa", sum := "77f330163becf77f718d583d362f0a819c7638fde73d7d85fe9bd547d7bda624", func := "nostos/nostoslaw07.NamesFolds", spec := "namesFolds", inPlace := ["internal/abi.NoEscape"], unfollowed := true, recurses := true, apart := false }
def NamesFoldsSaid : Prop := namesFoldsRow.holds Try.pinned (OpenSpec.ofChange namesFoldsSpec)

/-- ITS FALSE NEIGHBOUR: 'it returns false'. Refute it at one input. -/
def namesFoldsWrong : ChangeSpec := { name := "namesFolds", fn := fun _ => fun
  | [d] => { results := [.lit (.bool false)], args := [d] }
  | _ => none }
def NamesFoldsWrongFalsely : Prop := namesFoldsRow.holds Try.pinned (OpenSpec.ofChange namesFoldsWrong)

/-- 'nostoslaw07.NamesFinds': WHATEVER THE INPUT: true; the input reads as it did. -/
def namesFindsSpec : ChangeSpec := { name := "namesFinds", fn := fun _ => fun
  | [d1, d2] => { results := [.lit (.bool true)], args := [d1, d2] }
  | _ => none }
def namesFindsRow : OpenClaim := { program := "ytheknfppofmneaa", sum := "77f330163becf77f718d583d362f0a819c7638fde73d7d85fe9bd547d7bda624", func := "nostos/nostoslaw07.NamesFinds", spec := "namesFinds", inPlace := ["internal/abi.NoEscape"], unfollowed := true, recurses := true, apart := false }
def NamesFindsSaid : Prop := namesFindsRow.holds Try.pinned (OpenSpec.ofChange namesFindsSpec)

/-- ITS FALSE NEIGHBOUR: 'it returns false'. Refute it at one input. -/
def namesFindsWrong : ChangeSpec := { name := "namesFinds", fn := fun _ => fun
  | [d1, d2] => { results := [.lit (.bool false)], args := [d1, d2] }
  | _ => none }
def NamesFindsWrongFalsely : Prop := namesFindsRow.holds Try.pinned (OpenSpec.ofChange namesFindsWrong)

/-- 'nostoslaw07.NamesHides': WHATEVER THE INPUT: true; the input reads as it did. -/
def namesHidesSpec : ChangeSpec := { name := "namesHides", fn := fun _ => fun
  | [d1, d2, d3] => { results := [.lit (.bool true)], args := [d1, d2, d3] }
  | _ => none }
def namesHidesRow : OpenClaim := { program := "ytheknfppofmneaa", sum := "77f330163becf77f718d583d362f0a819c7638fde73d7d85fe9bd547d7bda624", func := "nostos/nostoslaw07.NamesHides", spec := "namesHides", inPlace := ["internal/abi.NoEscape"], unfollowed := true, recurses := true, apart := false }
def NamesHidesSaid : Prop := namesHidesRow.holds Try.pinned (OpenSpec.ofChange namesHidesSpec)

/-- ITS FALSE NEIGHBOUR: 'it returns false'. Refute it at one input. -/
def namesHidesWrong : ChangeSpec := { name := "namesHides", fn := fun _ => fun
  | [d1, d2, d3] => { results := [.lit (.bool false)], args := [d1, d2, d3] }
  | _ => none }
def NamesHidesWrongFalsely : Prop := namesHidesRow.holds Try.pinned (OpenSpec.ofChange namesHidesWrong)

/-- 'nostoslaw07.NamesLess': WHATEVER THE INPUT: true; the input reads as it did. -/
def namesLessSpec : ChangeSpec := { name := "namesLess", fn := fun _ => fun
  | [d1, d2] => { results := [.lit (.bool true)], args := [d1, d2] }
  | _ => none }
def namesLessRow : OpenClaim := { program := "ytheknfppofmneaa", sum := "77f330163becf77f718d583d362f0a819c7638fde73d7d85fe9bd547d7bda624", func := "nostos/nostoslaw07.NamesLess", spec := "namesLess", inPlace := ["internal/abi.NoEscape"], unfollowed := true, recurses := true, apart := false }
def NamesLessSaid : Prop := namesLessRow.holds Try.pinned (OpenSpec.ofChange namesLessSpec)

/-- ITS FALSE NEIGHBOUR: 'it returns false'. Refute it at one input. -/
def namesLessWrong : ChangeSpec := { name := "namesLess", fn := fun _ => fun
  | [d1, d2] => { results := [.lit (.bool false)], args := [d1, d2] }
  | _ => none }
def NamesLessWrongFalsely : Prop := namesLessRow.holds Try.pinned (OpenSpec.ofChange namesLessWrong)

/-- 'nostoslaw07.NamesSame': WHATEVER THE INPUT: true; the input reads as it did. -/
def namesSameSpec : ChangeSpec := { name := "namesSame", fn := fun _ => fun
  | [d1, d2] => { results := [.lit (.bool true)], args := [d1, d2] }
  | _ => none }
def namesSameRow : OpenClaim := { program := "ytheknfppofmneaa", sum := "77f330163becf77f718d583d362f0a819c7638fde73d7d85fe9bd547d7bda624", func := "nostos/nostoslaw07.NamesSame", spec := "namesSame", inPlace := ["internal/abi.NoEscape"], unfollowed := true, recurses := true, apart := false }
def NamesSameSaid : Prop := namesSameRow.holds Try.pinned (OpenSpec.ofChange namesSameSpec)

/-- ITS FALSE NEIGHBOUR: 'it returns false'. Refute it at one input. -/
def namesSameWrong : ChangeSpec := { name := "namesSame", fn := fun _ => fun
  | [d1, d2] => { results := [.lit (.bool false)], args := [d1, d2] }
  | _ => none }
def NamesSameWrongFalsely : Prop := namesSameRow.holds Try.pinned (OpenSpec.ofChange namesSameWrong)

/- THE SECOND FORM. 'bulk': how many values and letters a reading holds, each counted each time it is reached (what is shared counts as often as it is met; a slice's spare places count too). A statement '..UptoSaid' is the law's where the arguments, and the package variables that the reading takes, are together of bulk at most 1048576: NARROWER than '..Said'. Prove '..Said' where nothing that the law and all that it calls make is longer than what came in: it says more and counts as full. Else prove '..UptoSaid'. A law counts once. -/
mutual
def uptoBulk {H : Type} : DataW H → Nat
  | .lit (.string bytes) => bytes.length + 1
  | .lit _ => 1
  | .nil => 1
  | .ptr d => uptoBulk d + 1
  | .slice elems spare => uptoBulkAll elems + uptoBulkAll spare + 1
  | .agg parts => uptoBulkAll parts + 1
  | .iface _ d => uptoBulk d + 1
  | .map entries => uptoBulkEntries entries + 1
  | .held _ => 1
def uptoBulkAll {H : Type} : List (DataW H) → Nat
  | [] => 0
  | d :: r => uptoBulk d + uptoBulkAll r
def uptoBulkEntries {H : Type} : List (Lit × DataW H) → Nat
  | [] => 0
  | x :: r => uptoBulkEntry x + uptoBulkEntries r
def uptoBulkEntry {H : Type} : Lit × DataW H → Nat
  | (.string bytes, d) => bytes.length + uptoBulk d + 1
  | (_, d) => uptoBulk d + 1
 end
def uptoSmall : (H : Type) → List (DataW H) → Bool := fun _ ds => decide (uptoBulkAll ds ≤ 1048576)
def OpenSpec.upto (s : _root_.Go.ChangeSpec) : _root_.Go.OpenSpec := { _root_.Go.OpenSpec.ofChange s with cond := some uptoSmall }

/-- 'nostoslaw07.NamesFolds', WHERE WHAT IT READS IS OF BULK AT MOST 1048576: true; the input reads as it did. -/
def namesFoldsUptoRow : OpenClaim := { program := "ytheknfppofmneaa", sum := "77f330163becf77f718d583d362f0a819c7638fde73d7d85fe9bd547d7bda624", func := "nostos/nostoslaw07.NamesFolds", spec := "namesFolds", inPlace := ["internal/abi.NoEscape"], unfollowed := true, recurses := true, apart := false, narrowed := true }
def NamesFoldsUptoSaid : Prop := namesFoldsUptoRow.holds Try.pinned (OpenSpec.upto namesFoldsSpec)

/-- 'nostoslaw07.NamesFinds', WHERE WHAT IT READS IS OF BULK AT MOST 1048576: true; the input reads as it did. -/
def namesFindsUptoRow : OpenClaim := { program := "ytheknfppofmneaa", sum := "77f330163becf77f718d583d362f0a819c7638fde73d7d85fe9bd547d7bda624", func := "nostos/nostoslaw07.NamesFinds", spec := "namesFinds", inPlace := ["internal/abi.NoEscape"], unfollowed := true, recurses := true, apart := false, narrowed := true }
def NamesFindsUptoSaid : Prop := namesFindsUptoRow.holds Try.pinned (OpenSpec.upto namesFindsSpec)

/-- 'nostoslaw07.NamesHides', WHERE WHAT IT READS IS OF BULK AT MOST 1048576: true; the input reads as it did. -/
def namesHidesUptoRow : OpenClaim := { program := "ytheknfppofmneaa", sum := "77f330163becf77f718d583d362f0a819c7638fde73d7d85fe9bd547d7bda624", func := "nostos/nostoslaw07.NamesHides", spec := "namesHides", inPlace := ["internal/abi.NoEscape"], unfollowed := true, recurses := true, apart := false, narrowed := true }
def NamesHidesUptoSaid : Prop := namesHidesUptoRow.holds Try.pinned (OpenSpec.upto namesHidesSpec)

/-- 'nostoslaw07.NamesLess', WHERE WHAT IT READS IS OF BULK AT MOST 1048576: true; the input reads as it did. -/
def namesLessUptoRow : OpenClaim := { program := "ytheknfppofmneaa", sum := "77f330163becf77f718d583d362f0a819c7638fde73d7d85fe9bd547d7bda624", func := "nostos/nostoslaw07.NamesLess", spec := "namesLess", inPlace := ["internal/abi.NoEscape"], unfollowed := true, recurses := true, apart := false, narrowed := true }
def NamesLessUptoSaid : Prop := namesLessUptoRow.holds Try.pinned (OpenSpec.upto namesLessSpec)

/-- 'nostoslaw07.NamesSame', WHERE WHAT IT READS IS OF BULK AT MOST 1048576: true; the input reads as it did. -/
def namesSameUptoRow : OpenClaim := { program := "ytheknfppofmneaa", sum := "77f330163becf77f718d583d362f0a819c7638fde73d7d85fe9bd547d7bda624", func := "nostos/nostoslaw07.NamesSame", spec := "namesSame", inPlace := ["internal/abi.NoEscape"], unfollowed := true, recurses := true, apart := false, narrowed := true }
def NamesSameUptoSaid : Prop := namesSameUptoRow.holds Try.pinned (OpenSpec.upto namesSameSpec)

end Rows
end Go.Proofs.Ytheknfppofmneaa
