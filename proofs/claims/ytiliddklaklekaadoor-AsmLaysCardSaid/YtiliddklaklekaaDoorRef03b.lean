
/- Package nostosref03: a cell set, a byte set. -/
import Derived.Test.YtiliddklaklekaaDoorRef03
namespace Go.Proofs.YtiliddklaklekaaDoor
open Go.RowKit

set_option maxHeartbeats 1000000 in
theorem RefSetCell_any (A : Option Addr) (c : Nat) (i v : Int) (l : List Int) (w : World) (hx : RdI w .u8 A c l) (hb : isB l) (hl : l.length ≤ 140737488355328) :
    Calls Tryd.prog 26 #[.slice A l.length c, .int .i64 i, .int .i64 v] w fun e w' => ∃ x, e = .returned (.tuple #[x, .int .i64 (cellE l.length i)]) ∧ w'.ownsRow w.heap.size 5 1 x (setC l i v).length (nums .u8 (setC l i v)) ∧ Below w.heap.size w w' := by
  have HX := Lib.hid hx
  have HB := Lib.hid hb
  clear hx hb
  by_cases he : cellE l.length i = 0
  · rw [setC, if_pos he]
    rw [he]
    have hi : 0 ≤ i ∧ i + 8 ≤ l.length := by
      unfold cellE at he
      split at he <;> omega
    obtain ⟨k, rfl⟩ := Int.eq_ofNat_of_zero_le hi.1
    rw [Int.toNat_natCast]
    have h1 : k + 8 ≤ l.length := by omega
    rw [length_splice _ _ _ (by rw [bytesOf_length]; exact h1)]
    have HE := Lib.hid he
    clear he hi
    go_enter Tryd.func26, Tryd.ntmps26
    go_wp2_with fail
    refine (RefCell_any A c k l _ HX.out HB.out).mono ?_
    rintro e w' ⟨rfl, rfl⟩
    rw [HE.out]
    go_wp2_with (with_reducible refine wp_app (w0 := w) rfl (.tmp 22) (.tmp 23) 22 5 (.int .u8 0) 1 1 rfl Tryd.underlying22 infoU8 rfl (by decide) (by decide) w.heap.size _ 0 [] rfl (own_empty (heap_alloc_new _ _) (Nat.le_refl _)) A l.length c (nums .u8 l) rfl (HX.out.below ((Below.refl _ _).alloc (Nat.le_refl _) _)) (nums_one _ _) (by omega) (by simp) ((Below.refl _ _).alloc (Nat.le_refl _) _) ?_)
    intro v1 w1 ho hbl _
    (try rw [Nat.zero_add, List.nil_append] at ho)
    obtain ⟨g, cap, rfl, hg, hgs, hc1, hc2⟩ := own_form ho (by omega)
    unfold maxLen at hc2
    have HO := Lib.hid ho
    have HBL := Lib.hid hbl
    clear ho hbl
    go_wp2
    go_loopw [11, 12] (fun x i wr => ∃ (j : Nat) (q : Int), j ≤ 8 ∧ i = .int .i64 j ∧ x = .int .u64 q ∧ 0 ≤ q ∧ q ≤ 18446744073709551615 ∧ Hid (q = v % 18446744073709551616 / 256 ^ j) ∧ Hid (wr.ownsRow w.heap.size 5 1 (.slice (some ⟨g, 0, none⟩) l.length cap) l.length (nums .u8 (splice l k (bytesOf v j)))) ∧ Hid (Below w.heap.size w wr)) (fun _ i _ => 8 - (intOf i).toNat)
    case atStart => exact ⟨0, v % 18446744073709551616, by omega, rfl, by rw [IntKind.wrap_u64], by omega, by omega, Lib.hid (by simp), by rw [bytesOf, splice_nil]; exact HO, HBL⟩
    case round =>
      obtain ⟨j, q, hj, rfl, rfl, hq0, hq1, HQ, HO2, HB2⟩ := hrel
      by_cases hlt : j < 8
      · have hcell := HO2.out.cellAt (k + j) (by omega)
        have hfr := HO2.out.frozenAt (k + j)
        rw [nums_get (by rw [length_splice _ _ _ (by rw [bytesOf_length]; omega)]; omega)] at hcell
        generalize (splice l k (bytesOf v j)).getD (k + j) 0 = old at hcell
        go_wp2
        have hs := HO2.out.stored (k + j) (.int .u8 (q % 256))
        rw [nums_set] at hs
        have e1 : q % 256 = v / 256 ^ j % 256 := by rw [HQ.out, u64_shift v j hlt]
        have e2 := splice_snoc l (bytesOf v j) k (v / 256 ^ j % 256) (by rw [bytesOf_length]; omega)
        rw [bytesOf_length, ← bytesOf_snoc, ← e1] at e2
        go_roundw
        case rel =>
          refine ⟨j + 1, q / 256, by omega, by go_num, ?_, by omega, by omega, Lib.hid ?_, ?_, Lib.hid (HB2.out.setCell hg _)⟩
          · rfl
          · rw [HQ.out, Int.ediv_ediv_of_nonneg (by exact Int.pow_nonneg (by decide)), Int.pow_succ]
          · rw [e2]
            exact Lib.hid hs.1
        case measure => simp [intOf] <;> omega
      · obtain rfl : j = 8 := by omega
        go_wp2
        go_ret2
        exact ⟨_, rfl, HO2.out, HB2.out⟩
  · rw [setC, if_neg he]
    go_enter Tryd.func26, Tryd.ntmps26
    have hn : (cellE l.length i == 0) = false := by simpa using he
    have hn' : (cellE l.length i != 0) = true := by simpa using he
    go_wp2_with (go_at_call 33; refine (RefCell_any A c i l _ HX.out HB.out).mono ?_; rintro e w' ⟨rfl, rfl⟩)
    go_ret2
    exact ⟨_, rfl, ⟨rfl, .inl ⟨rfl, rfl⟩⟩, Below.refl _ _⟩

end Go.Proofs.YtiliddklaklekaaDoor
