/-
  No cell of these rows narrows 'for every input' (looked for: loops, veiled, ifaces, maps, wideKeys, modest, calm, conditions, laid).
  DERIVED. THE GIVEN ROWS OF THIS SEAT. 5 by the template 'for every input the law returns true; each argument reads behind the call as it read before'; 0 by the template 'total and deterministic' (their statements: YtmpmhbfaebgdgaaTotals.lean).
  GIVEN WITH THE SEED: the statements are not yours to turn. If you find one false, say at which input.
  Laid BY PROGRAM, IN A SANDBOX (cutbox-rows.mjs): the forced cells as the released guide's own fill.sh prints them over the translation 6a91a82a6ea26df9… (all of the seat's roots in one cut). By AI agents, Wed Nov 11 2026. No macro, syntax, notation, axiom, sorry.
-/
import Derived.Test.YtmpmhbfaebgdgaaChecked
import GoSem.Claim
import GoSem.ClaimJoined
import GoSem.ClaimMapViews
import Derived.JoinedTies
import Derived.KernelRfl
namespace Go.Proofs.Ytmpmhbfaebgdgaa
/- THE CELL 'sum', in the pinned program and in every row, IS THE sha256 OF THE DUMP (.gsa) THAT YtmpmhbfaebgdgaaProg.lean LOADS. Nothing in Lean hashes anything: it is a label: what it is worth is what the hold of that sum in a sandbox is worth. -/
noncomputable def Try.pinned : Pinned := { name := "ytmpmhbfaebgdgaa", sum := "6a91a82a6ea26df9d1cb96342a5222a79ebc1faf77bebea2dbd0613c35a3c3c8", checked := Try.checked }
namespace Rows
def none {H : Type} : Left H := { results := [], args := [] }

/-- 'nostoslaw05.NumberPuts': WHATEVER THE INPUT: true; the input reads as it did. -/
def numberPutsSpec : ChangeSpec := { name := "numberPuts", fn := fun _ => fun
  | [d1, d2] => { results := [.lit (.bool true)], args := [d1, d2] }
  | _ => none }
def numberPutsRow : OpenClaim := { program := "ytmpmhbfaebgdgaa", sum := "6a91a82a6ea26df9d1cb96342a5222a79ebc1faf77bebea2dbd0613c35a3c3c8", func := "nostos/nostoslaw05.NumberPuts", spec := "numberPuts", inPlace := ["internal/bytealg.IndexByteString"], unfollowed := true, recurses := true, apart := false }
def NumberPutsSaid : Prop := numberPutsRow.holds Try.pinned (OpenSpec.ofChange numberPutsSpec)

/-- ITS FALSE NEIGHBOUR: 'it returns false'. Refute it at one input. -/
def numberPutsWrong : ChangeSpec := { name := "numberPuts", fn := fun _ => fun
  | [d1, d2] => { results := [.lit (.bool false)], args := [d1, d2] }
  | _ => none }
def NumberPutsWrongFalsely : Prop := numberPutsRow.holds Try.pinned (OpenSpec.ofChange numberPutsWrong)

/-- 'nostoslaw05.NumberTakes': WHATEVER THE INPUT: true; the input reads as it did. -/
def numberTakesSpec : ChangeSpec := { name := "numberTakes", fn := fun _ => fun
  | [d1, d2] => { results := [.lit (.bool true)], args := [d1, d2] }
  | _ => none }
def numberTakesRow : OpenClaim := { program := "ytmpmhbfaebgdgaa", sum := "6a91a82a6ea26df9d1cb96342a5222a79ebc1faf77bebea2dbd0613c35a3c3c8", func := "nostos/nostoslaw05.NumberTakes", spec := "numberTakes", inPlace := ["internal/bytealg.IndexByteString"], unfollowed := true, recurses := true, apart := false }
def NumberTakesSaid : Prop := numberTakesRow.holds Try.pinned (OpenSpec.ofChange numberTakesSpec)

/-- ITS FALSE NEIGHBOUR: 'it returns false'. Refute it at one input. -/
def numberTakesWrong : ChangeSpec := { name := "numberTakes", fn := fun _ => fun
  | [d1, d2] => { results := [.lit (.bool false)], args := [d1, d2] }
  | _ => none }
def NumberTakesWrongFalsely : Prop := numberTakesRow.holds Try.pinned (OpenSpec.ofChange numberTakesWrong)

/-- 'nostoslaw05.NumberBack': WHATEVER THE INPUT: true; the input reads as it did. -/
def numberBackSpec : ChangeSpec := { name := "numberBack", fn := fun _ => fun
  | [d1, d2] => { results := [.lit (.bool true)], args := [d1, d2] }
  | _ => none }
def numberBackRow : OpenClaim := { program := "ytmpmhbfaebgdgaa", sum := "6a91a82a6ea26df9d1cb96342a5222a79ebc1faf77bebea2dbd0613c35a3c3c8", func := "nostos/nostoslaw05.NumberBack", spec := "numberBack", inPlace := ["internal/bytealg.IndexByteString"], unfollowed := true, recurses := true, apart := false }
def NumberBackSaid : Prop := numberBackRow.holds Try.pinned (OpenSpec.ofChange numberBackSpec)

/-- ITS FALSE NEIGHBOUR: 'it returns false'. Refute it at one input. -/
def numberBackWrong : ChangeSpec := { name := "numberBack", fn := fun _ => fun
  | [d1, d2] => { results := [.lit (.bool false)], args := [d1, d2] }
  | _ => none }
def NumberBackWrongFalsely : Prop := numberBackRow.holds Try.pinned (OpenSpec.ofChange numberBackWrong)

/-- 'nostoslaw05.NumberSigns': WHATEVER THE INPUT: true; the input reads as it did. -/
def numberSignsSpec : ChangeSpec := { name := "numberSigns", fn := fun _ => fun
  | [d1, d2] => { results := [.lit (.bool true)], args := [d1, d2] }
  | _ => none }
def numberSignsRow : OpenClaim := { program := "ytmpmhbfaebgdgaa", sum := "6a91a82a6ea26df9d1cb96342a5222a79ebc1faf77bebea2dbd0613c35a3c3c8", func := "nostos/nostoslaw05.NumberSigns", spec := "numberSigns", inPlace := ["internal/bytealg.IndexByteString"], unfollowed := true, recurses := true, apart := false }
def NumberSignsSaid : Prop := numberSignsRow.holds Try.pinned (OpenSpec.ofChange numberSignsSpec)

/-- ITS FALSE NEIGHBOUR: 'it returns false'. Refute it at one input. -/
def numberSignsWrong : ChangeSpec := { name := "numberSigns", fn := fun _ => fun
  | [d1, d2] => { results := [.lit (.bool false)], args := [d1, d2] }
  | _ => none }
def NumberSignsWrongFalsely : Prop := numberSignsRow.holds Try.pinned (OpenSpec.ofChange numberSignsWrong)

/-- 'nostoslaw05.NumberOne': WHATEVER THE INPUT: true; the input reads as it did. -/
def numberOneSpec : ChangeSpec := { name := "numberOne", fn := fun _ => fun
  | [d1, d2, d3] => { results := [.lit (.bool true)], args := [d1, d2, d3] }
  | _ => none }
def numberOneRow : OpenClaim := { program := "ytmpmhbfaebgdgaa", sum := "6a91a82a6ea26df9d1cb96342a5222a79ebc1faf77bebea2dbd0613c35a3c3c8", func := "nostos/nostoslaw05.NumberOne", spec := "numberOne", inPlace := ["internal/bytealg.IndexByteString"], unfollowed := true, recurses := true, apart := false }
def NumberOneSaid : Prop := numberOneRow.holds Try.pinned (OpenSpec.ofChange numberOneSpec)

/-- ITS FALSE NEIGHBOUR: 'it returns false'. Refute it at one input. -/
def numberOneWrong : ChangeSpec := { name := "numberOne", fn := fun _ => fun
  | [d1, d2, d3] => { results := [.lit (.bool false)], args := [d1, d2, d3] }
  | _ => none }
def NumberOneWrongFalsely : Prop := numberOneRow.holds Try.pinned (OpenSpec.ofChange numberOneWrong)

/- THE SECOND FORM. 'bulk': how many values and letters a reading holds, each counted each time it is reached (what is shared counts as often as it is met; a slice's spare places count too). A statement '..UptoSaid' is the law's where the arguments, and the package variables that the reading takes, are together of bulk at most 1048576: NARROWER than '..Said'. Prove '..Said' where nothing that the law and all that it calls make is longer than what came in: it says more and counts as full. Else prove '..UptoSaid'. A law counts once. -/
mutual
def uptoBulk {H : Type} : DataW H → Nat
  | .lit (.string bytes) => bytes.length + 1
  | .lit _ => 1
  | .nil => 1
  | .ptr d => uptoBulk d + 1
  | .slice elems spare => uptoBulkAll elems + uptoBulkAll spare + 1
  | .agg parts => uptoBulkAll parts + 1
  | .iface _ d => uptoBulk d + 1
  | .map entries => uptoBulkEntries entries + 1
  | .held _ => 1
def uptoBulkAll {H : Type} : List (DataW H) → Nat
  | [] => 0
  | d :: r => uptoBulk d + uptoBulkAll r
def uptoBulkEntries {H : Type} : List (Lit × DataW H) → Nat
  | [] => 0
  | x :: r => uptoBulkEntry x + uptoBulkEntries r
def uptoBulkEntry {H : Type} : Lit × DataW H → Nat
  | (.string bytes, d) => bytes.length + uptoBulk d + 1
  | (_, d) => uptoBulk d + 1
 end
def uptoSmall : (H : Type) → List (DataW H) → Bool := fun _ ds => decide (uptoBulkAll ds ≤ 1048576)
def OpenSpec.upto (s : _root_.Go.ChangeSpec) : _root_.Go.OpenSpec := { _root_.Go.OpenSpec.ofChange s with cond := some uptoSmall }

/-- 'nostoslaw05.NumberPuts', WHERE WHAT IT READS IS OF BULK AT MOST 1048576: true; the input reads as it did. -/
def numberPutsUptoRow : OpenClaim := { program := "ytmpmhbfaebgdgaa", sum := "6a91a82a6ea26df9d1cb96342a5222a79ebc1faf77bebea2dbd0613c35a3c3c8", func := "nostos/nostoslaw05.NumberPuts", spec := "numberPuts", inPlace := ["internal/bytealg.IndexByteString"], unfollowed := true, recurses := true, apart := false, narrowed := true }
def NumberPutsUptoSaid : Prop := numberPutsUptoRow.holds Try.pinned (OpenSpec.upto numberPutsSpec)

/-- 'nostoslaw05.NumberTakes', WHERE WHAT IT READS IS OF BULK AT MOST 1048576: true; the input reads as it did. -/
def numberTakesUptoRow : OpenClaim := { program := "ytmpmhbfaebgdgaa", sum := "6a91a82a6ea26df9d1cb96342a5222a79ebc1faf77bebea2dbd0613c35a3c3c8", func := "nostos/nostoslaw05.NumberTakes", spec := "numberTakes", inPlace := ["internal/bytealg.IndexByteString"], unfollowed := true, recurses := true, apart := false, narrowed := true }
def NumberTakesUptoSaid : Prop := numberTakesUptoRow.holds Try.pinned (OpenSpec.upto numberTakesSpec)

/-- 'nostoslaw05.NumberBack', WHERE WHAT IT READS IS OF BULK AT MOST 1048576: true; the input reads as it did. -/
def numberBackUptoRow : OpenClaim := { program := "ytmpmhbfaebgdgaa", sum := "6a91a82a6ea26df9d1cb96342a5222a79ebc1faf77bebea2dbd0613c35a3c3c8", func := "nostos/nostoslaw05.NumberBack", spec := "numberBack", inPlace := ["internal/bytealg.IndexByteString"], unfollowed := true, recurses := true, apart := false, narrowed := true }
def NumberBackUptoSaid : Prop := numberBackUptoRow.holds Try.pinned (OpenSpec.upto numberBackSpec)

/-- 'nostoslaw05.NumberSigns', WHERE WHAT IT READS IS OF BULK AT MOST 1048576: true; the input reads as it did. -/
def numberSignsUptoRow : OpenClaim := { program := "ytmpmhbfaebgdgaa", sum := "6a91a82a6ea26df9d1cb96342a5222a79ebc1faf77bebea2dbd0613c35a3c3c8", func := "nostos/nostoslaw05.NumberSigns", spec := "numberSigns", inPlace := ["internal/bytealg.IndexByteString"], unfollowed := true, recurses := true, apart := false, narrowed := true }
def NumberSignsUptoSaid : Prop := numberSignsUptoRow.holds Try.pinned (OpenSpec.upto numberSignsSpec)

/-- 'nostoslaw05.NumberOne', WHERE WHAT IT READS IS OF BULK AT MOST 1048576: true; the input reads as it did. -/
def numberOneUptoRow : OpenClaim := { program := "ytmpmhbfaebgdgaa", sum := "6a91a82a6ea26df9d1cb96342a5222a79ebc1faf77bebea2dbd0613c35a3c3c8", func := "nostos/nostoslaw05.NumberOne", spec := "numberOne", inPlace := ["internal/bytealg.IndexByteString"], unfollowed := true, recurses := true, apart := false, narrowed := true }
def NumberOneUptoSaid : Prop := numberOneUptoRow.holds Try.pinned (OpenSpec.upto numberOneSpec)

end Rows
end Go.Proofs.Ytmpmhbfaebgdgaa
