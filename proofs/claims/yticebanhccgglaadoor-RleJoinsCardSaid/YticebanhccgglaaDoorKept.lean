
/- Small words for laws: what is read stays so. -/
import Derived.Test.YticebanhccgglaaDoorBase
namespace Go.Proofs.YticebanhccgglaaDoor
open Go.RowKit

theorem below_drewN (w : World) (n : Nat) : Below w.heap.size w (w.drewN n) := by
  have := (Below.refl w.heap.size w)
  exact ⟨this.os, this.tape, this.output, this.size, fun k hk => this.block k hk⟩
/-- A literal. -/
theorem rd_lit (w : World) (k : IntKind) (xs : List Int) (arr : Array Value) (t : TypeId) (g : Nat) (hg : w.heap.size = g) (h : arr.toList = nums k xs) (hm : xs.length ≤ maxLen) : Rd (w.alloc (.cells arr t)) (some ⟨g, 0, none⟩) xs.length xs.length 1 (nums k xs) := by
  subst hg
  exact rd_alloc w (nums k xs) arr t (0, 0) xs.length xs.length 1 h (by simp [nums]) (Nat.le_refl _) hm
theorem below_lit (w : World) (c : Obj) : Below w.heap.size w (w.alloc c) := (Below.refl _ _).alloc (Nat.le_refl _) _
/-- An operation under a guard that holds: as one without. -/
theorem wp_take {P : Program} {ops : Array Oper} {rest : List Oper} {o : Oper} {a : Act} {Q : Exit → Act → World → Prop} {w : World} (h : Region.wanted o (yielded ops a.tmps) = true) (k : wpList P ops Q ({ o with guard := none } :: rest) a w) : wpList P ops Q (o :: rest) a w := by
  unfold wpList at k ⊢
  rw [if_pos h]
  rw [if_pos (by simp [Region.wanted])] at k
  exact k
end Go.Proofs.YticebanhccgglaaDoor
