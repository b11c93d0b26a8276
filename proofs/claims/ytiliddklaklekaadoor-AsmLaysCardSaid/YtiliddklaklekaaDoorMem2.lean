
/- Package memory: bytes with others among them. -/
import Derived.Test.YtiliddklaklekaaDoorMem
namespace Go.Proofs.YtiliddklaklekaaDoor
open Go.RowKit
theorem infoU8 : (Tryd.prog.info? 5).map (fun i => (i.zero, i.size, i.bytes)) = some (some (.int .u8 0), 1, 1) := by kernel_rfl

set_option maxHeartbeats 400000 in
theorem with_any (A B : Option Addr) (c cb i : Nat) (xs ys : List Int) (w : World) (hx : RdI w .u8 A c xs) (hy : RdI w .u8 B cb ys) (hi : i + ys.length ≤ xs.length) (hl : xs.length ≤ 140737488355328) :
    Calls Tryd.prog 37 #[.slice A xs.length c, .int .i64 i, .slice B ys.length cb] w fun e w' => ∃ v, e = .returned v ∧ w'.ownsRow w.heap.size 5 1 v xs.length (nums .u8 (splice xs i ys)) ∧ Below w.heap.size w w' := by
  have hmk := make_nums (P := Tryd.prog) 22 5 .u8 1 Tryd.underlying22 infoU8 xs.length (by omega) (by omega)
  have HX := Lib.hid hx
  have HY := Lib.hid hy
  clear hx hy
  go_enter Tryd.func37, Tryd.ntmps37
  go_wp2_with (with_reducible refine wpList_copy_splice rfl (.tmp 11) (.tmp 12) 22 22 rfl 5 Tryd.underlying22 (by kernel_rfl) _ _ _ _ _ _ rfl rfl w.heap.size 0 (nums .u8 (List.replicate xs.length 0)) 5 ?h1 (nums .u8 xs) ?h2 ?h3 ?h4 (nums_one _ _) w.heap.size w ?h5 (Nat.le_refl _) ?h6)
  case h1 => exact heap_alloc_new _ _
  case h2 => simp [nums]
  case h3 => exact fun h0 => HX.out.src ((Below.refl _ _).alloc (Nat.le_refl _) _) h0
  case h4 => simp [nums]
  case h5 => exact (Below.refl _ _).alloc (Nat.le_refl _) _
  case h6 =>
  intro w1 hg1 hb1
  have e1 : splice (nums .u8 (List.replicate xs.length 0)) 0 (nums .u8 xs) = nums .u8 xs := by simp [splice, nums]
  rw [e1] at hg1
  clear e1 hmk
  have HB1 := Lib.hid hb1
  clear hb1
  go_wp2_with (with_reducible refine wpList_copy_splice rfl (.tmp 16) (.tmp 17) 22 22 rfl 5 Tryd.underlying22 (by kernel_rfl) _ _ _ _ _ _ rfl rfl w.heap.size i (nums .u8 xs) 5 hg1.out (nums .u8 ys) ?g2 ?g3 ?g4 (nums_one _ _) w.heap.size w HB1.out (Nat.le_refl _) ?g6)
  case g2 => rw [nums_length]; exact (Nat.min_eq_left (by omega)).symm
  case g4 => rw [nums_length, nums_length]; exact hi
  all_goals first
    | exact fun h0 => HY.out.src HB1.out h0
    | exact fun h0 => absurd h0 (by rw [nums_length]; omega)
    | (intro w2 hg2 hb2
       have HB2 := Lib.hid hb2
       clear hb2
       go_wp2
       go_ret
       have hs := own_block (base := w.heap.size) hg2.out (Nat.le_refl _) (by rw [length_splice _ _ _ (by rw [nums_length, nums_length]; exact hi), nums_length]; unfold maxLen; omega)
       rw [nums_splice] at hs
       have hl : (nums .u8 (splice xs i ys)).length = xs.length := by rw [nums_length, length_splice _ _ _ hi]
       rw [hl] at hs
       refine ⟨_, rfl, ?_, HB2.out⟩
       first | exact hs | (rename_i h; simp only [h] at hs ⊢; exact hs))

theorem with_len (A B : Option Addr) (c cb i m : Nat) (xs ys : List Int) (w : World) (hm : ys.length = m) (hx : RdI w .u8 A c xs) (hy : RdI w .u8 B cb ys) (hi : i + m ≤ xs.length) (hl : xs.length ≤ 140737488355328) :
    Calls Tryd.prog 37 #[.slice A xs.length c, .int .i64 i, .slice B m cb] w fun e w' => ∃ v, e = .returned v ∧ w'.ownsRow w.heap.size 5 1 v xs.length (nums .u8 (splice xs i ys)) ∧ Below w.heap.size w w' := by
  subst hm
  exact with_any A B c cb i xs ys w hx hy hi hl
end Go.Proofs.YtiliddklaklekaaDoor
