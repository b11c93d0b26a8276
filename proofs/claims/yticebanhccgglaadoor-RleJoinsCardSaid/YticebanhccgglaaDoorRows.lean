/-
  NARROWER THAN 'FOR EVERY INPUT', by the rows' own cells (each row's printed sentence says how): RlePuts: laid · RleTakes: laid · RleBack: laid · RleOne: laid · RleJoins: laid.
  DERIVED. THE GIVEN ROWS OF THIS SEAT. 5 by the template 'for every input the law returns true; each argument reads behind the call as it read before'; 0 by the template 'total and deterministic' (their statements: YticebanhccgglaaDoorTotals.lean).
  GIVEN WITH THE SEED: the statements are not yours to turn. If you find one false, say at which input.
  Laid BY PROGRAM, IN A SANDBOX (cutbox-rows.mjs): the forced cells as the released guide's own fill.sh prints them over the translation d89bd89a8651085f… (all of the seat's roots in one cut). By AI agents, Wed Nov 11 2026. No macro, syntax, notation, axiom, sorry.
-/
import Derived.Test.YticebanhccgglaaDoorChecked
import GoSem.PinnedTables
import GoSem.Claim
import GoSem.ClaimJoined
import GoSem.ClaimMapViews
import Derived.JoinedTies
import Derived.KernelRfl
namespace Go.Proofs.YticebanhccgglaaDoor
/- THE CELL 'sum', in the pinned program and in every row, IS THE sha256 OF THE DUMP (.gsa) THAT YticebanhccgglaaDoorProg.lean LOADS. Nothing in Lean hashes anything: it is a label: what it is worth is what the hold of that sum in a sandbox is worth. -/
noncomputable def Tryd.pinned : Pinned := { name := "yticebanhccgglaadoor", sum := "d89bd89a8651085fcd14070442ad394b48ca0bd71981e29af1570ec7f1336728", checked := Tryd.checked }
namespace Rows
def none {H : Type} : Left H := { results := [], args := [] }

/- WHAT THE LISTED PACKAGE-LEVEL VARIABLES READ AS WHEN THE CALL BEGINS. Each datum BY PROGRAM (the guide's laid-datum.mjs) off the statement by which the dump's own 'gosem.cut.vars' lays the variable. In a bare row this is a premise. The card (YticebanhccgglaaDoorCards.lean) ties it to the program's text. -/
def laid_unicode_utf8_acceptRanges {H : Type} : DataW H := .agg [.agg [.lit (.int .u8 128), .lit (.int .u8 191)], .agg [.lit (.int .u8 160), .lit (.int .u8 191)], .agg [.lit (.int .u8 128), .lit (.int .u8 159)], .agg [.lit (.int .u8 144), .lit (.int .u8 191)], .agg [.lit (.int .u8 128), .lit (.int .u8 143)], .agg [.lit (.int .u8 0), .lit (.int .u8 0)], .agg [.lit (.int .u8 0), .lit (.int .u8 0)], .agg [.lit (.int .u8 0), .lit (.int .u8 0)], .agg [.lit (.int .u8 0), .lit (.int .u8 0)], .agg [.lit (.int .u8 0), .lit (.int .u8 0)], .agg [.lit (.int .u8 0), .lit (.int .u8 0)], .agg [.lit (.int .u8 0), .lit (.int .u8 0)], .agg [.lit (.int .u8 0), .lit (.int .u8 0)], .agg [.lit (.int .u8 0), .lit (.int .u8 0)], .agg [.lit (.int .u8 0), .lit (.int .u8 0)], .agg [.lit (.int .u8 0), .lit (.int .u8 0)]]
/-- One of Go's own tables, pinned by name: the form's constant. -/
def laid_unicode_utf8_first : DataW Unit := Go.Pinned.utf8First

/-- 'nostoslaw17.RlePuts': WHATEVER THE INPUT: true; the input reads as it did. -/
def rlePutsSpec : ChangeSpec := { name := "rlePuts", fn := fun _ => fun
  | [d] => { results := [.lit (.bool true)], args := [d] }
  | _ => none }
def rlePutsRow : OpenClaim := { program := "yticebanhccgglaadoor", sum := "d89bd89a8651085fcd14070442ad394b48ca0bd71981e29af1570ec7f1336728", func := "nostos/nostoslaw17.RlePuts", spec := "rlePuts", inPlace := ["internal/bytealg.MakeNoZero"], unfollowed := true, recurses := true, named := ["unicode/utf8.first", "unicode/utf8.acceptRanges"], apart := false, laid := [("unicode/utf8.acceptRanges", laid_unicode_utf8_acceptRanges), ("unicode/utf8.first", laid_unicode_utf8_first)] }
def RlePutsSaid : Prop := rlePutsRow.holds Tryd.pinned (OpenSpec.ofChange rlePutsSpec)

/-- ITS FALSE NEIGHBOUR: 'it returns false'. Refute it at one input. -/
def rlePutsWrong : ChangeSpec := { name := "rlePuts", fn := fun _ => fun
  | [d] => { results := [.lit (.bool false)], args := [d] }
  | _ => none }
def RlePutsWrongFalsely : Prop := rlePutsRow.holds Tryd.pinned (OpenSpec.ofChange rlePutsWrong)

/-- 'nostoslaw17.RleTakes': WHATEVER THE INPUT: true; the input reads as it did. -/
def rleTakesSpec : ChangeSpec := { name := "rleTakes", fn := fun _ => fun
  | [d1, d2] => { results := [.lit (.bool true)], args := [d1, d2] }
  | _ => none }
def rleTakesRow : OpenClaim := { program := "yticebanhccgglaadoor", sum := "d89bd89a8651085fcd14070442ad394b48ca0bd71981e29af1570ec7f1336728", func := "nostos/nostoslaw17.RleTakes", spec := "rleTakes", inPlace := ["internal/bytealg.MakeNoZero"], unfollowed := true, recurses := true, named := ["unicode/utf8.first", "unicode/utf8.acceptRanges"], apart := false, laid := [("unicode/utf8.acceptRanges", laid_unicode_utf8_acceptRanges), ("unicode/utf8.first", laid_unicode_utf8_first)] }
def RleTakesSaid : Prop := rleTakesRow.holds Tryd.pinned (OpenSpec.ofChange rleTakesSpec)

/-- ITS FALSE NEIGHBOUR: 'it returns false'. Refute it at one input. -/
def rleTakesWrong : ChangeSpec := { name := "rleTakes", fn := fun _ => fun
  | [d1, d2] => { results := [.lit (.bool false)], args := [d1, d2] }
  | _ => none }
def RleTakesWrongFalsely : Prop := rleTakesRow.holds Tryd.pinned (OpenSpec.ofChange rleTakesWrong)

/-- 'nostoslaw17.RleBack': WHATEVER THE INPUT: true; the input reads as it did. -/
def rleBackSpec : ChangeSpec := { name := "rleBack", fn := fun _ => fun
  | [d1, d2] => { results := [.lit (.bool true)], args := [d1, d2] }
  | _ => none }
def rleBackRow : OpenClaim := { program := "yticebanhccgglaadoor", sum := "d89bd89a8651085fcd14070442ad394b48ca0bd71981e29af1570ec7f1336728", func := "nostos/nostoslaw17.RleBack", spec := "rleBack", inPlace := ["internal/bytealg.MakeNoZero"], unfollowed := true, recurses := true, named := ["unicode/utf8.first", "unicode/utf8.acceptRanges"], apart := false, laid := [("unicode/utf8.acceptRanges", laid_unicode_utf8_acceptRanges), ("unicode/utf8.first", laid_unicode_utf8_first)] }
def RleBackSaid : Prop := rleBackRow.holds Tryd.pinned (OpenSpec.ofChange rleBackSpec)

/-- ITS FALSE NEIGHBOUR: 'it returns false'. Refute it at one input. -/
def rleBackWrong : ChangeSpec := { name := "rleBack", fn := fun _ => fun
  | [d1, d2] => { results := [.lit (.bool false)], args := [d1, d2] }
  | _ => none }
def RleBackWrongFalsely : Prop := rleBackRow.holds Tryd.pinned (OpenSpec.ofChange rleBackWrong)

/-- 'nostoslaw17.RleOne': WHATEVER THE INPUT: true; the input reads as it did. -/
def rleOneSpec : ChangeSpec := { name := "rleOne", fn := fun _ => fun
  | [d1, d2] => { results := [.lit (.bool true)], args := [d1, d2] }
  | _ => none }
def rleOneRow : OpenClaim := { program := "yticebanhccgglaadoor", sum := "d89bd89a8651085fcd14070442ad394b48ca0bd71981e29af1570ec7f1336728", func := "nostos/nostoslaw17.RleOne", spec := "rleOne", inPlace := ["internal/bytealg.MakeNoZero"], unfollowed := true, recurses := true, named := ["unicode/utf8.first", "unicode/utf8.acceptRanges"], apart := false, laid := [("unicode/utf8.acceptRanges", laid_unicode_utf8_acceptRanges), ("unicode/utf8.first", laid_unicode_utf8_first)] }
def RleOneSaid : Prop := rleOneRow.holds Tryd.pinned (OpenSpec.ofChange rleOneSpec)

/-- ITS FALSE NEIGHBOUR: 'it returns false'. Refute it at one input. -/
def rleOneWrong : ChangeSpec := { name := "rleOne", fn := fun _ => fun
  | [d1, d2] => { results := [.lit (.bool false)], args := [d1, d2] }
  | _ => none }
def RleOneWrongFalsely : Prop := rleOneRow.holds Tryd.pinned (OpenSpec.ofChange rleOneWrong)

/-- 'nostoslaw17.RleJoins': WHATEVER THE INPUT: true; the input reads as it did. -/
def rleJoinsSpec : ChangeSpec := { name := "rleJoins", fn := fun _ => fun
  | [d1, d2, d3] => { results := [.lit (.bool true)], args := [d1, d2, d3] }
  | _ => none }
def rleJoinsRow : OpenClaim := { program := "yticebanhccgglaadoor", sum := "d89bd89a8651085fcd14070442ad394b48ca0bd71981e29af1570ec7f1336728", func := "nostos/nostoslaw17.RleJoins", spec := "rleJoins", inPlace := ["internal/bytealg.MakeNoZero"], unfollowed := true, recurses := true, named := ["unicode/utf8.first", "unicode/utf8.acceptRanges"], apart := false, laid := [("unicode/utf8.acceptRanges", laid_unicode_utf8_acceptRanges), ("unicode/utf8.first", laid_unicode_utf8_first)] }
def RleJoinsSaid : Prop := rleJoinsRow.holds Tryd.pinned (OpenSpec.ofChange rleJoinsSpec)

/-- ITS FALSE NEIGHBOUR: 'it returns false'. Refute it at one input. -/
def rleJoinsWrong : ChangeSpec := { name := "rleJoins", fn := fun _ => fun
  | [d1, d2, d3] => { results := [.lit (.bool false)], args := [d1, d2, d3] }
  | _ => none }
def RleJoinsWrongFalsely : Prop := rleJoinsRow.holds Tryd.pinned (OpenSpec.ofChange rleJoinsWrong)

/- THE SECOND FORM. 'bulk': how many values and letters a reading holds, each counted each time it is reached (what is shared counts as often as it is met; a slice's spare places count too). A statement '..UptoSaid' is the law's where the arguments, and the package variables that the reading takes, are together of bulk at most 1048576: NARROWER than '..Said'. Prove '..Said' where nothing that the law and all that it calls make is longer than what came in: it says more and counts as full. Else prove '..UptoSaid'. A law counts once. -/
mutual
def uptoBulk {H : Type} : DataW H → Nat
  | .lit (.string bytes) => bytes.length + 1
  | .lit _ => 1
  | .nil => 1
  | .ptr d => uptoBulk d + 1
  | .slice elems spare => uptoBulkAll elems + uptoBulkAll spare + 1
  | .agg parts => uptoBulkAll parts + 1
  | .iface _ d => uptoBulk d + 1
  | .map entries => uptoBulkEntries entries + 1
  | .held _ => 1
def uptoBulkAll {H : Type} : List (DataW H) → Nat
  | [] => 0
  | d :: r => uptoBulk d + uptoBulkAll r
def uptoBulkEntries {H : Type} : List (Lit × DataW H) → Nat
  | [] => 0
  | x :: r => uptoBulkEntry x + uptoBulkEntries r
def uptoBulkEntry {H : Type} : Lit × DataW H → Nat
  | (.string bytes, d) => bytes.length + uptoBulk d + 1
  | (_, d) => uptoBulk d + 1
 end
def uptoSmall : (H : Type) → List (DataW H) → Bool := fun _ ds => decide (uptoBulkAll ds ≤ 1048576)
def OpenSpec.upto (s : _root_.Go.ChangeSpec) : _root_.Go.OpenSpec := { _root_.Go.OpenSpec.ofChange s with cond := some uptoSmall }

/-- 'nostoslaw17.RlePuts', WHERE WHAT IT READS IS OF BULK AT MOST 1048576: true; the input reads as it did. -/
def rlePutsUptoRow : OpenClaim := { program := "yticebanhccgglaadoor", sum := "d89bd89a8651085fcd14070442ad394b48ca0bd71981e29af1570ec7f1336728", func := "nostos/nostoslaw17.RlePuts", spec := "rlePuts", inPlace := ["internal/bytealg.MakeNoZero"], unfollowed := true, recurses := true, named := ["unicode/utf8.first", "unicode/utf8.acceptRanges"], apart := false, laid := [("unicode/utf8.acceptRanges", laid_unicode_utf8_acceptRanges), ("unicode/utf8.first", laid_unicode_utf8_first)], narrowed := true }
def RlePutsUptoSaid : Prop := rlePutsUptoRow.holds Tryd.pinned (OpenSpec.upto rlePutsSpec)

/-- 'nostoslaw17.RleTakes', WHERE WHAT IT READS IS OF BULK AT MOST 1048576: true; the input reads as it did. -/
def rleTakesUptoRow : OpenClaim := { program := "yticebanhccgglaadoor", sum := "d89bd89a8651085fcd14070442ad394b48ca0bd71981e29af1570ec7f1336728", func := "nostos/nostoslaw17.RleTakes", spec := "rleTakes", inPlace := ["internal/bytealg.MakeNoZero"], unfollowed := true, recurses := true, named := ["unicode/utf8.first", "unicode/utf8.acceptRanges"], apart := false, laid := [("unicode/utf8.acceptRanges", laid_unicode_utf8_acceptRanges), ("unicode/utf8.first", laid_unicode_utf8_first)], narrowed := true }
def RleTakesUptoSaid : Prop := rleTakesUptoRow.holds Tryd.pinned (OpenSpec.upto rleTakesSpec)

/-- 'nostoslaw17.RleBack', WHERE WHAT IT READS IS OF BULK AT MOST 1048576: true; the input reads as it did. -/
def rleBackUptoRow : OpenClaim := { program := "yticebanhccgglaadoor", sum := "d89bd89a8651085fcd14070442ad394b48ca0bd71981e29af1570ec7f1336728", func := "nostos/nostoslaw17.RleBack", spec := "rleBack", inPlace := ["internal/bytealg.MakeNoZero"], unfollowed := true, recurses := true, named := ["unicode/utf8.first", "unicode/utf8.acceptRanges"], apart := false, laid := [("unicode/utf8.acceptRanges", laid_unicode_utf8_acceptRanges), ("unicode/utf8.first", laid_unicode_utf8_first)], narrowed := true }
def RleBackUptoSaid : Prop := rleBackUptoRow.holds Tryd.pinned (OpenSpec.upto rleBackSpec)

/-- 'nostoslaw17.RleOne', WHERE WHAT IT READS IS OF BULK AT MOST 1048576: true; the input reads as it did. -/
def rleOneUptoRow : OpenClaim := { program := "yticebanhccgglaadoor", sum := "d89bd89a8651085fcd14070442ad394b48ca0bd71981e29af1570ec7f1336728", func := "nostos/nostoslaw17.RleOne", spec := "rleOne", inPlace := ["internal/bytealg.MakeNoZero"], unfollowed := true, recurses := true, named := ["unicode/utf8.first", "unicode/utf8.acceptRanges"], apart := false, laid := [("unicode/utf8.acceptRanges", laid_unicode_utf8_acceptRanges), ("unicode/utf8.first", laid_unicode_utf8_first)], narrowed := true }
def RleOneUptoSaid : Prop := rleOneUptoRow.holds Tryd.pinned (OpenSpec.upto rleOneSpec)

/-- 'nostoslaw17.RleJoins', WHERE WHAT IT READS IS OF BULK AT MOST 1048576: true; the input reads as it did. -/
def rleJoinsUptoRow : OpenClaim := { program := "yticebanhccgglaadoor", sum := "d89bd89a8651085fcd14070442ad394b48ca0bd71981e29af1570ec7f1336728", func := "nostos/nostoslaw17.RleJoins", spec := "rleJoins", inPlace := ["internal/bytealg.MakeNoZero"], unfollowed := true, recurses := true, named := ["unicode/utf8.first", "unicode/utf8.acceptRanges"], apart := false, laid := [("unicode/utf8.acceptRanges", laid_unicode_utf8_acceptRanges), ("unicode/utf8.first", laid_unicode_utf8_first)], narrowed := true }
def RleJoinsUptoSaid : Prop := rleJoinsUptoRow.holds Tryd.pinned (OpenSpec.upto rleJoinsSpec)

end Rows
end Go.Proofs.YticebanhccgglaaDoor
