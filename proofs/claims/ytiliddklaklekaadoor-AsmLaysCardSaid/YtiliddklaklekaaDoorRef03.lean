
/- Package nostosref03: the same as package memory. -/
import Derived.Test.YtiliddklaklekaaDoorMem3
namespace Go.Proofs.YtiliddklaklekaaDoor
open Go.RowKit

theorem wrap64_mul (x : Int) : wrap64 (wrap64 x * 256) = wrap64 (x * 256) := by unfold wrap64; omega

set_option maxHeartbeats 1000000 in
theorem RefCell_any (A : Option Addr) (c : Nat) (i : Int) (l : List Int) (w : World) (hx : RdI w .u8 A c l) (hb : isB l) :
    Calls Tryd.prog 33 #[.slice A l.length c, .int .i64 i] w fun e w' => e = .returned (.tuple #[.int .i64 (cellR l i), .int .i64 (cellE l.length i)]) ∧ w = w' := by
  have h2 := hx.le
  have h3 := hx.cap
  unfold maxLen at h3
  by_cases h : i < 0 ∨ (l.length : Int) - 8 < i
  · rw [cellR, cellE, if_pos h, if_pos h]
    clear hx hb
    by_cases h0 : i < 0
    all_goals
      go_enter Tryd.func33, Tryd.ntmps33
      go_wp2
      go_ret2
      exact ⟨rfl, rfl⟩
  · rw [cellR, cellE, if_neg h, if_neg h]
    obtain ⟨k, rfl⟩ := Int.eq_ofNat_of_zero_le (show 0 ≤ i by omega)
    by_cases h8 : (k : Int) % 8 = 0
    · rw [if_pos h8, if_pos h8, Int.toNat_natCast]
      obtain ⟨ad, rfl, hc⟩ := hx.all (by omega)
      have h1 : k + 8 ≤ l.length := by omega
      have HC : Hid (∀ j, j < 8 → w.cell? (ad.add (k + j)) = some (.int .u8 (((l.drop k).take 8).getD j 0))) := Lib.hid fun j hj => by
        rw [hc (k + j) (by omega)]
        simp [List.getD_eq_getElem?_getD, hj]
      have E8 : Hid (((l.drop k).take 8).length = 8) := Lib.hid (by simp; omega)
      have HB := Lib.hid (isB_take (isB_drop hb k) 8)
      unfold cellAt
      generalize (l.drop k).take 8 = b at E8 HC HB ⊢
      have b8 : ((k : Int) % 8 == 0) = true := by simpa using h8
      clear hx hb hc h h8
      go_enter Tryd.func33, Tryd.ntmps33
      go_wp2
      go_loop [6, 7] (fun n i => ∃ m : Nat, m ≤ 8 ∧ i = .int .i64 (m - 1) ∧ n = .int .i64 (wrap64 (le (b.drop m)))) (fun _ i => (intOf i + 1).toNat)
      case atStart => exact ⟨8, by omega, rfl, by rw [List.drop_eq_nil_of_le (Nat.le_of_eq E8.out)]; simp [le, wrap64]⟩
      case round =>
        obtain ⟨m, hm, rfl, rfl⟩ := hrel
        rcases m with _ | m
        · go_wp2
          go_ret2
          exact ⟨rfl, rfl⟩
        · have hcell := HC.out m (by omega)
          have hr := isB_getD HB.out m
          have hd := drop_cons (l := b) (k := m) (by rw [E8.out]; omega)
          generalize b.getD m 0 = x at hcell hr hd
          obtain ⟨hr0, hr1⟩ := hr
          have HD := Lib.hid hd
          clear hd
          have e1 : ((m + 1 : Nat) : Int) - 1 = m := by omega
          rw [e1]
          clear e1
          go_wp2
          go_round
          case rel =>
            refine ⟨m, by omega, rfl, ?_⟩
            have e2 : le (b.drop m) = le (b.drop (m + 1)) * 256 + x := by
              rw [HD.out, le]
              omega
            rw [wrap64_mul, i64_join _ _ hr0 hr1, e2]
          case measure => simp [intOf] <;> omega
    · rw [if_neg h8, if_neg h8]
      have b8 : ((k : Int) % 8 == 0) = false := by simpa using h8
      clear hx hb h8
      go_enter Tryd.func33, Tryd.ntmps33
      go_wp2
      all_goals (go_ret2; exact ⟨rfl, rfl⟩)

end Go.Proofs.YtiliddklaklekaaDoor
