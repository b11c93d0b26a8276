
/- What the rows' listed variables give: a start that fits. -/
import Derived.Test.YticebanhccgglaaDoorBase
import Derived.Test.YticebanhccgglaaDoorRows
import Derived.LaidMore
import Derived.Stop.LaidErr
import Derived.ProofKit
import Derived.Stop.Joined
import Derived.MakeChecks
import Derived.Lay
import Derived.PinnedBridge
namespace Go.Proofs.YticebanhccgglaaDoor
open Go.ChangeShapes Go.WideShapes Go.ChangeAt Go.RowKit

abbrev laidL : List (String × DataW Unit) := [("unicode/utf8.acceptRanges", Rows.laid_unicode_utf8_acceptRanges), ("unicode/utf8.first", Rows.laid_unicode_utf8_first)]
theorem door_met (os : Os) (args : Array Value) : laidMetH Tryd.prog laidL ((World.laidAll Tryd.prog os laidL).forCall (fun _ _ => 0) ⟨#[], args, []⟩).memory := by
  rw [MakeChecks.laidMetH_plain _ _ _ (by kernel_rfl)]
  exact laidMet_laidAll _ (by kernel_rfl) (by kernel_rfl)
theorem own : ownKnob Tryd.prog.godebug = none := by kernel_rfl
theorem laidOut : laidOutB Tryd.prog = true := by kernel_rfl
end Go.Proofs.YticebanhccgglaaDoor
