
/- slices.Grow and slices.Concat at []byte: Go's own text, walked. -/
import Derived.Test.YticebanhccgglaaDoorNum16
import Derived.Test.YticebanhccgglaaDoorApp2
import Derived.WalkKit
import Derived.WalkSpells
import Derived.WalkLawsBesides
import Derived.Handy
namespace Go.Proofs.YticebanhccgglaaDoor
open Go.RowKit


/-- What the slices that are handed to Concat hold. -/
structure Parts (w : World) (g : Nat) (ps : List (Option Addr × Nat × List Int)) : Prop where
  val : ∀ j p, ps[j]? = some p → w.cell? ⟨g, j, none⟩ = some (.slice p.1 p.2.2.length p.2.1)
  rd : ∀ p ∈ ps, RdI w .u8 p.1 p.2.1 p.2.2
def cat (ps : List (Option Addr × Nat × List Int)) : List Int := ps.flatMap fun p => p.2.2

theorem cat_snoc (ps : List (Option Addr × Nat × List Int)) (k : Nat) (h : k < ps.length) : cat (ps.take (k + 1)) = cat (ps.take k) ++ (ps[k]'h).2.2 := by
  rw [cat, List.take_succ_eq_append_getElem h, List.flatMap_append]
  simp [cat]
theorem cat_take_le (ps : List (Option Addr × Nat × List Int)) (k : Nat) : (cat (ps.take k)).length ≤ (cat ps).length := by
  have e : cat ps = cat (ps.take k) ++ cat (ps.drop k) := by
    rw [cat, cat, cat, ← List.flatMap_append, List.take_append_drop]
  rw [e, List.length_append]
  omega

end Go.Proofs.YticebanhccgglaaDoor
