
/- What the rows' listed variables give: the library's table of blanks; and a start that fits. -/
import Derived.Test.YtappfhjknihboaaGreatDoorMD
import Derived.Test.YtappfhjknihboaaGreatDoorRows
import Derived.LaidMore
import Derived.Stop.LaidErr
import Derived.ProofKit
import Derived.Stop.Joined
import Derived.MakeChecks
namespace Go.Proofs.YtappfhjknihboaaGreatDoor
open Go.ChangeShapes Go.WideShapes Go.ChangeAt Go.RowKit

abbrev laidL : List (String × DataW Unit) := [("unicode.White_Space", Rows.laid_unicode_White_Space), ("strings.asciiSpace", Rows.laid_strings_asciiSpace)]
theorem door_met (os : Os) (args : Array Value) : laidMetH Tryz.prog laidL ((World.doorLaid Tryz.prog 400 os).forCall (fun _ _ => 0) ⟨#[], args, []⟩).memory :=
  laidMetH_of_parts3 (fuel := 8) (laidMet_of_run' 8 (by kernel_rfl) (by kernel_rfl)) (by kernel_rfl) (by kernel_rfl)
theorem tab_of_laid {W : World} (h : laidMetH Tryz.prog laidL W) : Tab W := by
  rw [MakeChecks.laidMetH_plain _ _ _ (by kernel_rfl)] at h
  have h2 := laidMet.tail h
  have e : (Rows.laid_strings_asciiSpace : DataW Unit) = Lib.tabData .u8 Lib.asciiSpaceTab := by kernel_rfl
  rw [e] at h2
  exact Lib.tabIs_of_head gTab (by kernel_rfl) Tryz.underlying134 Tryz.underlying5 (by kernel_rfl) (by kernel_rfl) h2
theorem own : ownKnob Tryz.prog.godebug = none := by kernel_rfl
theorem laidOut : laidOutB Tryz.prog = true := by kernel_rfl
end Go.Proofs.YtappfhjknihboaaGreatDoor
