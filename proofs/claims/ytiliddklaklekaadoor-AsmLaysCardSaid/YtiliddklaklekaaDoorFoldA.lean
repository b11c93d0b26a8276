
/- names.Fold, and the reference's. -/
import Derived.Test.YtiliddklaklekaaDoorBuild
import Derived.Test.YtiliddklaklekaaDoorPlain07
import Derived.Test.YtiliddklaklekaaDoorKept
import Derived.Deep.QuietTactic
import Derived.BigQuiet
namespace Go.Proofs.YtiliddklaklekaaDoor
open Go.RowKit

theorem byteCells_nums (l : List UInt8) : Lib.byteCells l = nums .u8 (l.map fun b => (b.toNat : Int)) := by simp [Lib.byteCells, nums, Function.comp_def]
theorem strOf_bytes (l : List UInt8) : strOf (l.map fun b => (b.toNat : Int)) = ⟨l.toArray⟩ := by
  simp [strOf, strOfNums, Function.comp_def]
theorem conv_bytes {w : World} {A : Option Addr} {c : Nat} {l : List UInt8} (h : Rd w A l.length c 1 (Lib.byteCells l)) : (convert 22 9 (.slice A l.length c)).run Tryd.prog w = .ok (.string ⟨l.toArray⟩) w := by
  have h2 : RdI w .u8 A c (l.map fun b => (b.toNat : Int)) := by
    rw [byteCells_nums] at h
    show Rd w A (l.map fun b => (b.toNat : Int)).length c 1 _
    rw [List.length_map]
    exact h
  have := conv_rd (P := Tryd.prog) Tryd.underlying22 Tryd.underlying5 Tryd.underlying9 h2
  rw [strOf_bytes] at this
  simpa using this
theorem infoU8F : (Tryd.prog.info? 5).map (fun i => (i.zero, i.size, i.bytes)) = some (some (.int .u8 0), 1, 1) := by kernel_rfl

theorem toList_empty (s : ByteArray) : s.toList.isEmpty = decide (s.size = 0) := by
  rw [ByteArray.toList_eq]
  have : s.data.toList.length = s.size := by simp
  cases h : s.data.toList with
  | nil => rw [h] at this; simp at this; simp [← this]
  | cons a b =>
    rw [h, List.length_cons] at this
    rw [decide_eq_false (by omega)]
    rfl

end Go.Proofs.YtiliddklaklekaaDoor
