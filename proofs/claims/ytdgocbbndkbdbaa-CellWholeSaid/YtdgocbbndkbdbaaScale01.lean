/- cell.Scale. -/
import Derived.Test.YtdgocbbndkbdbaaDiv01
import Derived.Test.YtdgocbbndkbdbaaAwake01
namespace Go.Proofs.Ytdgocbbndkbdbaa
open Go.RowKit

/-- A product, divided. -/
def scP (a b : Int) : Nat := a.natAbs * b.natAbs
def scB (a b c : Int) : Bool := ((decide (a < 0) != decide (b < 0)) != decide (c < 0)) && decide (0 < scP a b)
def scN (a b c : Int) : Nat := scP a b / c.natAbs + (if scB a b c && decide (0 < scP a b % c.natAbs) then 1 else 0)
def scL (a b c : Int) : Nat := if scB a b c && decide (0 < scP a b % c.natAbs) then c.natAbs - scP a b % c.natAbs else scP a b % c.natAbs
def scaleC (a b c : Int) : Int × Int × Bool :=
  if c = 0 ∨ c.natAbs ≤ scP a b / 18446744073709551616 then (0, 0, false) else
    if (scB a b c = true ∧ 9223372036854775808 < scN a b c) ∨ (scB a b c = false ∧ 9223372036854775808 ≤ scN a b c) then (0, 0, false) else
      (if scB a b c then -(scN a b c : Int) else scN a b c, if c < 0 then -(scL a b c : Int) else scL a b c, true)

theorem scP_lt {a b : Int} (ha : a.natAbs ≤ 9223372036854775808) (hb : b.natAbs ≤ 9223372036854775808) : scP a b ≤ 85070591730234615865843651857942052864 := by
  unfold scP
  exact Nat.mul_le_mul ha hb
theorem sc_quot {P C : Nat} (hC : 0 < C) (h : P / 18446744073709551616 < C) : P / C < 18446744073709551616 := by
  rw [Nat.div_lt_iff_lt_mul hC]
  rw [Nat.div_lt_iff_lt_mul (by decide)] at h
  rw [Nat.mul_comm]
  exact h

theorem round_max {q r c : Int} (hr : 0 < r) (_ : r < c) (_ : c ≤ 9223372036854775808) (hq : q = 18446744073709551615) : roundC true q r c = (0, c - r, false) := by
  subst hq
  have h1 : (r != 0) = true := by simp; omega
  have h2 : IntKind.u64.wrap (c - r) = c - r := IntWalk.u64_in _ (by omega)
  unfold roundC
  rw [h1, h2]
  rfl
theorem round_up {q r c : Int} (hr : 0 < r) (_ : r < c) (_ : c ≤ 9223372036854775808) (hq : 0 ≤ q ∧ q < 18446744073709551615) : roundC true q r c = (q + 1, c - r, true) := by
  have h1 : (r != 0) = true := by simp; omega
  have h2 : IntKind.u64.wrap (c - r) = c - r := IntWalk.u64_in _ (by omega)
  have h3 : IntKind.u64.wrap (q + 1) = q + 1 := IntWalk.u64_in _ (by omega)
  have h4 : (q != 18446744073709551615) = true := by simp; omega
  unfold roundC
  rw [h1, h2, h3, h4]
  rfl
theorem round_exact {q r c : Int} (hr : r = 0) : roundC true q r c = (q, r, true) := by
  subst hr
  rfl
theorem round_no {q r c : Int} : roundC false q r c = (q, r, true) := rfl
abbrev Two (w : World) (H L C : Int) : World := (w.alloc (.cells #[.int .u64 H, .int .u64 L] 33)).alloc (.cells #[.int .u64 C] 32)
theorem two_cells {w w1 : World} {H L C : Int} (hb : Below (Two w H L C).heap.size (Two w H L C) w1) :
    w1.cell? ⟨w.heap.size, 0, none⟩ = some (.int .u64 H) ∧ w1.cell? ⟨w.heap.size, 1, none⟩ = some (.int .u64 L) ∧ w1.cell? ⟨w.heap.size + 1, 0, none⟩ = some (.int .u64 C) ∧ Below w.heap.size w w1 :=
  ⟨(hb.cell (by simp; omega)).trans (by go_simp), (hb.cell (by simp; omega)).trans (by go_simp), (hb.cell (by simp)).trans (by go_simp), below_two (below_two (below_lit w _) (below_lit _ _)) hb⟩
abbrev Three (w : World) (q r : Int) (bl : Bool) : World := ((w.alloc (.cells #[.int .u64 q] 32)).alloc (.cells #[.int .u64 r] 32)).alloc (.cells #[.bool bl] 4)
theorem wide_cells {w : World} {g : Nat} {k : Nat} {q r X : Int} (h : w.cell? ⟨g, k, none⟩ = some (.int .u64 X)) :
    ((w.alloc (.cells #[.int .u64 q] 32)).alloc (.cells #[.int .u64 r] 32)).cell? ⟨g, k, none⟩ = some (.int .u64 X) := by
  have hb := below_two (below_lit w (.cells #[.int .u64 q] 32)) (below_lit _ (.cells #[.int .u64 r] 32))
  exact (hb.cell (World.block_lt_of_cell? w _ h)).trans h
theorem three_cells {w : World} {g : Nat} {q r C : Int} {bl : Bool} (h : w.cell? ⟨g, 0, none⟩ = some (.int .u64 C)) :
    (Three w q r bl).cell? ⟨w.heap.size + 1 + 1, 0, none⟩ = some (.bool bl) ∧ (Three w q r bl).cell? ⟨w.heap.size + 1, 0, none⟩ = some (.int .u64 r) ∧ (Three w q r bl).cell? ⟨w.heap.size, 0, none⟩ = some (.int .u64 q) ∧ (Three w q r bl).cell? ⟨g, 0, none⟩ = some (.int .u64 C) := by
  have hb := below_two (below_two (below_lit w (.cells #[.int .u64 q] 32)) (below_lit _ (.cells #[.int .u64 r] 32))) (below_lit _ (.cells #[.bool bl] 4))
  exact ⟨by go_simp, by go_simp, by go_simp, (hb.cell (World.block_lt_of_cell? w _ h)).trans h⟩

end Go.Proofs.Ytdgocbbndkbdbaa
