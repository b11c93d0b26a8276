
/- (*codec.Reader).Text; the reader that is nil. -/
import Derived.Test.YticebanhccgglaaDoorRNum16
namespace Go.Proofs.YticebanhccgglaaDoor
open Go.RowKit

theorem readS_len (l : List Int) (e lo hi : Int) : (readS l e lo hi).2.1.length ≤ l.length := by
  unfold readS
  split
  · exact Nat.le_refl _
  · split
    · exact Nat.le_refl _
    · split
      · simp
      · simp
theorem readS_ok (l : List Int) (e lo hi : Int) : (readS l e lo hi).2.2 = 0 → lo ≤ (readS l e lo hi).1 ∧ (readS l e lo hi).1 ≤ hi := by
  unfold readS
  split
  · rename_i h
    exact fun h2 => absurd h2 h
  · split
    · rename_i h
      exact fun h2 => absurd h2 h
    · split
      · exact fun h2 => absurd (show (2 : Int) = 0 from h2) (by decide)
      · intro _
        simp only
        omega

theorem RdNum_nil (lo hi : Int) (w : World) :
    Calls Tryd.prog 25 #[.pointer none, .int .i64 lo, .int .i64 hi] w fun r w' => r = .returned (.int .i64 0) ∧ Below w.heap.size w w' := by
  have HB := Lib.hid (below_two (below_lit w (.cells #[.pointer none] 52)) (below_lit _ (.cells #[.int .i64 0] 3)))
  go_enter_defers Tryd.func25, Tryd.ntmps25
  go_wp2_with fail
  refine (Err_nil _).mono ?_
  rintro r w' ⟨rfl, rfl⟩
  go_wp2
  simp [bodyPostD, Leaves, results, Tryd.results25, go_sem]
  exact HB.out
end Go.Proofs.YticebanhccgglaaDoor
