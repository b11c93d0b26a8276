
/- nostosref16: ReadText, End; awake. -/
import Derived.Test.YticebanhccgglaaDoorRRead16
import Derived.Test.YticebanhccgglaaDoorRdr16
namespace Go.Proofs.YticebanhccgglaaDoor
open Go.RowKit

theorem sl_lh (A : Option Addr) (n c i j : Nat) (w : World) (h : i ≤ j) (h2 : j ≤ c) : (Instr.sliceAt 22 (.slice A n c) (some (.int .i64 i)) (some (.int .i64 j)) none).run Tryd.prog w = .ok (.slice (cutA A i (c - i)) (j - i) (c - i)) w := by
  have e2 : Tryd.prog.elem 22 = 5 := by kernel_rfl
  have ht : Tryd.prog.underlying 22 = some (.slice (Tryd.prog.elem 22)) := by rw [e2]; exact Tryd.underlying22
  rw [run_sliceAt_slice _ _ _ _ _ _ ht, run_slice_lh _ _ _ _ _ ht .i64 .i64 i j (by omega) (by omega) (by omega), e2, Tryd.sizeOf5 w]
  simp only [Result.andThen, sliced, Int.toNat_natCast, Nat.mul_one, cutA]
  by_cases hc : c = i
  · rw [if_pos hc, if_pos (by omega)]
  · rw [if_neg hc, if_neg (by omega)]

/-- A variable for a reader of the reference, still zero. -/
structure Box3 (w : World) (g : Nat) : Prop where
  k1 : w.cell? ⟨g, 0, none⟩ = some (.slice none 0 0)
  k2 : w.cell? ⟨g, 1, none⟩ = some (.int .i64 0)
  k3 : w.cell? ⟨g, 2, none⟩ = some (.int .i64 0)
  k4 : w.frozen? ⟨g, 0, none⟩ = false
  k5 : w.frozen? ⟨g, 1, none⟩ = false
  k6 : w.frozen? ⟨g, 2, none⟩ = false
theorem Box3.below {w w' : World} {g : Nat} (h : Box3 w g) (hg : g < w.heap.size) (hb : Below w.heap.size w w') : Box3 w' g :=
  ⟨(hb.cell hg).trans h.k1, (hb.cell hg).trans h.k2, (hb.cell hg).trans h.k3, (hb.frozen hg).trans h.k4, (hb.frozen hg).trans h.k5, (hb.frozen hg).trans h.k6⟩

end Go.Proofs.YticebanhccgglaaDoor
