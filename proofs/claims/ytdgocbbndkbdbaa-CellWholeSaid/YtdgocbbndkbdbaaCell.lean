/- package cell, and the reference: what is without products of 128 bits. -/
import Derived.Test.YtdgocbbndkbdbaaRows
import Derived.Test.YtdgocbbndkbdbaaBase
import Derived.Test.YtdgocbbndkbdbaaKept
import Derived.Deep.QuietTactic
import Derived.BigQuiet
namespace Go.Proofs.Ytdgocbbndkbdbaa
open Go.RowKit

/-- A cell without its sign. -/
def u64 (a : Int) : Int := a % 18446744073709551616
def belowC (a b : Int) : Bool := decide (u64 a < u64 b)

theorem Flag_any (b : Bool) (w : World) : Calls Try.prog 12 #[.bool b] w fun e w' => e = .returned (.int .i64 (if b then -1 else 0)) ∧ w = w' := by
  cases b
  all_goals
    go_enter Try.func12, Try.ntmps12
    go_wp2
    go_ret
    exact ⟨rfl, rfl⟩

theorem Below_any (a b : Int) (w : World) : Calls Try.prog 10 #[.int .i64 a, .int .i64 b] w fun e w' => e = .returned (.bool (belowC a b)) ∧ w = w' := by
  go_enter Try.func10, Try.ntmps10
  go_wp2
  go_ret
  exact ⟨rfl, rfl⟩

theorem Within_any (x a b : Int) (w : World) : Calls Try.prog 11 #[.int .i64 x, .int .i64 a, .int .i64 b] w fun e w' => e = .returned (.bool (belowC (wrap64 (x - a)) (wrap64 (b - a)))) ∧ w = w' := by
  go_enter Try.func11, Try.ntmps11
  go_wp2_with fail
  refine (Below_any _ _ _).mono ?_
  rintro e w' ⟨rfl, rfl⟩
  go_wp2
  go_ret
  exact ⟨rfl, rfl⟩

theorem RBelow_any (a b : Int) (w : World) (ha : -9223372036854775808 ≤ a) (ha1 : a ≤ 9223372036854775807) (hb : -9223372036854775808 ≤ b) (hb1 : b ≤ 9223372036854775807) :
    Calls Try.prog 9 #[.int .i64 a, .int .i64 b] w fun e w' => e = .returned (.bool (belowC a b)) ∧ w = w' := by
  by_cases h1 : a < 0
  · by_cases h2 : b < 0
    · have e : belowC a b = decide (a < b) := by unfold belowC u64; simp only [decide_eq_decide]; omega
      rw [e]
      go_enter Try.func9, Try.ntmps9
      go_wp2
      go_ret
      exact ⟨rfl, rfl⟩
    · have e : belowC a b = false := by unfold belowC u64; simp only [decide_eq_false_iff_not]; omega
      rw [e]
      go_enter Try.func9, Try.ntmps9
      go_wp2
      go_ret
      exact ⟨rfl, rfl⟩
  · by_cases h2 : b < 0
    · have e : belowC a b = true := by unfold belowC u64; simp only [decide_eq_true_eq]; omega
      rw [e]
      go_enter Try.func9, Try.ntmps9
      go_wp2
      go_ret
      exact ⟨rfl, rfl⟩
    · have e : belowC a b = decide (a < b) := by unfold belowC u64; simp only [decide_eq_decide]; omega
      rw [e]
      go_enter Try.func9, Try.ntmps9
      go_wp2
      go_ret
      exact ⟨rfl, rfl⟩

/-- A quotient, rounded down. -/
def divC (a b : Int) : Int × Int × Bool := if b = 0 then (0, 0, false) else if b = -1 then (wrap64 (-a), 0, true) else (Int.fdiv a b, Int.fmod a b, true)

/-- Shifts. -/
def leftC (a n : Int) : Int := wrap64 (IntKind.u64.wrap (IntKind.u64.wrap a * 2 ^ min (IntKind.u64.wrap n).toNat 64))
def rightC (a n : Int) : Int := wrap64 (IntKind.u64.wrap a / 2 ^ min (IntKind.u64.wrap n).toNat 64)
theorem Left_any (a n : Int) (w : World) :
    Calls Try.prog 17 #[.int .i64 a, .int .i64 n] w fun e w' => e = .returned (.int .i64 (leftC a n)) ∧ w = w' := by
  go_enter Try.func17, Try.ntmps17
  go_wp2
  go_ret
  exact ⟨rfl, rfl⟩
theorem Right_any (a n : Int) (w : World) :
    Calls Try.prog 18 #[.int .i64 a, .int .i64 n] w fun e w' => e = .returned (.int .i64 (rightC a n)) ∧ w = w' := by
  go_enter Try.func18, Try.ntmps18
  go_wp2
  go_ret
  exact ⟨rfl, rfl⟩
theorem u64_wrap (a : Int) : IntKind.u64.wrap a = u64 a := rfl
theorem u64_of {n : Int} (h0 : 0 ≤ n) (h1 : n ≤ 9223372036854775807) : IntKind.u64.wrap n = n := by
  rw [u64_wrap]; unfold u64; omega
theorem leftC_out {a n : Int} (h0 : -9223372036854775808 ≤ n) (h1 : n ≤ 9223372036854775807) (h : n < 0 ∨ 63 < n) : leftC a n = 0 := by
  have e : min (IntKind.u64.wrap n).toNat 64 = 64 := by rw [u64_wrap]; unfold u64; omega
  unfold leftC
  rw [e, u64_wrap (_ * _)]
  have : u64 (IntKind.u64.wrap a * 2 ^ 64) = 0 := by unfold u64; exact Int.mul_emod_left _ _
  rw [this]
  unfold wrap64; omega
theorem rightC_out {a n : Int} (h0 : -9223372036854775808 ≤ n) (h1 : n ≤ 9223372036854775807) (h : n < 0 ∨ 63 < n) : rightC a n = 0 := by
  have e : min (IntKind.u64.wrap n).toNat 64 = 64 := by rw [u64_wrap]; unfold u64; omega
  unfold rightC
  rw [e, u64_wrap]
  have : u64 a / 2 ^ 64 = 0 := by unfold u64; show _ / 18446744073709551616 = _; omega
  rw [this]
  unfold wrap64; omega
theorem wrap_u64 (x : Int) : wrap64 (IntKind.u64.wrap x) = wrap64 x := by rw [u64_wrap]; unfold u64 wrap64; omega
theorem wrap_eq {y z : Int} (h : y % 18446744073709551616 = z % 18446744073709551616) : wrap64 y = wrap64 z := by unfold wrap64; omega
theorem leftC_in {a : Int} {n : Nat} (h : n ≤ 63) : leftC a n = wrap64 (a * 2 ^ n) := by
  have e : min (IntKind.u64.wrap n).toNat 64 = n := by rw [u64_of (by omega) (by omega)]; omega
  unfold leftC
  rw [e, wrap_u64]
  apply wrap_eq
  rw [u64_wrap]
  unfold u64
  rw [Int.mul_emod, Int.emod_emod_of_dvd _ (Int.dvd_refl _), ← Int.mul_emod]
theorem rightC_in {a : Int} {n : Nat} (h : n ≤ 63) : rightC a n = wrap64 (u64 a / 2 ^ n) := by
  have e : min (IntKind.u64.wrap n).toNat 64 = n := by rw [u64_of (by omega) (by omega)]; omega
  unfold rightC
  rw [e]
  rfl

set_option maxHeartbeats 1000000 in
theorem RLeft_any (a n : Int) (w : World) (ha : -9223372036854775808 ≤ a) (ha1 : a ≤ 9223372036854775807) (h0 : -9223372036854775808 ≤ n) (h1 : n ≤ 9223372036854775807) :
    Calls Try.prog 19 #[.int .i64 a, .int .i64 n] w fun e w' => e = .returned (.int .i64 (leftC a n)) ∧ w = w' := by
  by_cases h : n < 0 ∨ 63 < n
  · rw [leftC_out h0 h1 h]
    go_enter Try.func19, Try.ntmps19
    go_wp2
    all_goals (go_ret; exact ⟨rfl, rfl⟩)
  · obtain ⟨n, rfl⟩ := Int.eq_ofNat_of_zero_le (show 0 ≤ n by omega)
    rw [leftC_in (by omega)]
    have h63 : n ≤ 63 := by omega
    clear h
    go_enter Try.func19, Try.ntmps19
    go_wp2
    go_loop [0, 5] (fun x i => ∃ k : Nat, k ≤ n ∧ x = .int .i64 (wrap64 (a * 2 ^ k)) ∧ i = .int .i64 k) (fun _ i => n - (intOf i).toNat)
    case atStart => exact ⟨0, by omega, by rw [show a * 2 ^ 0 = a by simp, show wrap64 a = a by unfold wrap64; omega], rfl⟩
    case round =>
      obtain ⟨k, hk, rfl, rfl⟩ := hrel
      by_cases hlt : k < n
      · go_wp2
        go_round
        case rel => exact ⟨k + 1, by omega, by rw [Int.pow_succ, ← Int.mul_assoc]; congr 1; unfold wrap64; omega, by go_num⟩
        case measure => simp [intOf] <;> omega
      · obtain rfl : k = n := by omega
        go_wp2
        go_ret
        exact ⟨rfl, rfl⟩

theorem half_step (a : Int) (k : Nat) : Value.int IntKind.u64 (IntKind.u64.wrap ((u64 a / 2 ^ k).tdiv 2)) = Value.int IntKind.u64 (u64 a / 2 ^ (k + 1)) := by
  have hp : (0 : Int) < 2 ^ k := Int.pow_pos (by decide)
  have h0 : 0 ≤ u64 a ∧ u64 a < 18446744073709551616 := by unfold u64; omega
  have h1 : 0 ≤ u64 a / 2 ^ k := Int.ediv_nonneg h0.1 (by omega)
  have h2 : u64 a / 2 ^ k ≤ u64 a := Int.ediv_le_self _ h0.1
  rw [Int.pow_succ, ← Int.ediv_ediv_of_nonneg (by omega), Int.tdiv_eq_ediv_of_nonneg h1]
  generalize u64 a / 2 ^ k = x at *
  rw [u64_wrap]
  unfold u64
  congr 1
  omega
set_option maxHeartbeats 1000000 in
theorem RRight_any (a n : Int) (w : World) (ha : -9223372036854775808 ≤ a) (ha1 : a ≤ 9223372036854775807) (h0 : -9223372036854775808 ≤ n) (h1 : n ≤ 9223372036854775807) :
    Calls Try.prog 20 #[.int .i64 a, .int .i64 n] w fun e w' => e = .returned (.int .i64 (rightC a n)) ∧ w = w' := by
  by_cases h : n < 0 ∨ 63 < n
  · rw [rightC_out h0 h1 h]
    go_enter Try.func20, Try.ntmps20
    go_wp2
    all_goals (go_ret; exact ⟨rfl, rfl⟩)
  · obtain ⟨n, rfl⟩ := Int.eq_ofNat_of_zero_le (show 0 ≤ n by omega)
    rw [rightC_in (by omega)]
    have h63 : n ≤ 63 := by omega
    clear h
    go_enter Try.func20, Try.ntmps20
    go_wp2
    go_loop [5, 6] (fun x i => ∃ k : Nat, k ≤ n ∧ x = .int .u64 (u64 a / 2 ^ k) ∧ i = .int .i64 k) (fun _ i => n - (intOf i).toNat)
    case atStart => exact ⟨0, by omega, by rw [show u64 a / 2 ^ 0 = u64 a by simp]; rfl, rfl⟩
    case round =>
      obtain ⟨k, hk, rfl, rfl⟩ := hrel
      by_cases hlt : k < n
      · go_wp2
        go_round
        case rel => exact ⟨k + 1, by omega, half_step a k, by go_num⟩
        case measure => simp [intOf] <;> omega
      · obtain rfl : k = n := by omega
        go_wp2
        go_ret
        exact ⟨rfl, rfl⟩

/-- Go's quotient, and the one that is rounded down. -/
theorem tdiv_facts {a b : Int} (ha : -9223372036854775808 ≤ a) (ha1 : a ≤ 9223372036854775807) (hb : b ≠ 0) (hm : b ≠ -1) :
    b * a.tdiv b + a.tmod b = a ∧ (0 < b → -b < a.tmod b ∧ a.tmod b < b) ∧ (b < 0 → b < a.tmod b ∧ a.tmod b < -b) ∧ (-9223372036854775808 ≤ a.tdiv b ∧ a.tdiv b ≤ 9223372036854775807) ∧ (b ≠ 1 → -9223372036854775808 ≤ a.tdiv b - 1) := by
  have h1 := Int.mul_tdiv_add_tmod a b
  have h4 : 2 ≤ b.natAbs ∨ b = 1 := by omega
  have habs : (a.tdiv b).natAbs = a.natAbs / b.natAbs := Int.natAbs_tdiv a b
  have hq : (-9223372036854775808 ≤ a.tdiv b ∧ a.tdiv b ≤ 9223372036854775807) ∧ (b ≠ 1 → -9223372036854775808 ≤ a.tdiv b - 1) := by
    rcases h4 with h | h
    · have : a.natAbs / b.natAbs ≤ a.natAbs / 2 := Nat.div_le_div_left h (by decide)
      omega
    · subst h
      rw [Int.tdiv_one]
      omega
  refine ⟨h1, fun h => ⟨Int.lt_tmod_of_pos a h, Int.tmod_lt_of_pos a h⟩, fun h => ?_, hq.1, hq.2⟩
  have e := Int.tmod_neg a b
  rw [← e]
  have l1 := Int.lt_tmod_of_pos a (show 0 < -b by omega)
  have l2 := Int.tmod_lt_of_pos a (show 0 < -b by omega)
  exact ⟨by omega, l2⟩
theorem fdiv_keep {a b q r : Int} (h : b * q + r = a) (h1 : (0 < b ∧ 0 ≤ r ∧ r < b) ∨ (b < 0 ∧ r ≤ 0 ∧ b < r)) : a.fdiv b = q ∧ a.fmod b = r := by
  rcases h1 with ⟨hb, h2, h3⟩ | ⟨hb, h2, h3⟩
  · exact (Int.fdiv_fmod_unique hb).2 ⟨by rw [← h, Int.add_comm], h2, h3⟩
  · exact (Int.fdiv_fmod_unique' hb).2 ⟨by rw [← h, Int.add_comm], h3, h2⟩
set_option maxHeartbeats 1000000 in
theorem Div_any (a b : Int) (w : World) (ha : -9223372036854775808 ≤ a) (ha1 : a ≤ 9223372036854775807) (hb : -9223372036854775808 ≤ b) (hb1 : b ≤ 9223372036854775807) (q r : Int) (ok : Bool) (h : divC a b = (q, r, ok)) :
    Calls Try.prog 13 #[.int .i64 a, .int .i64 b] w fun e w' => e = .returned (.tuple #[.int .i64 q, .int .i64 r, .bool ok]) ∧ Below w.heap.size w w' := by
  unfold divC at h
  by_cases h0 : b = 0
  · rw [if_pos h0] at h
    injection h with h1 h2
    injection h2 with h2 h3
    subst h0 h1 h2 h3
    go_enter Try.func13, Try.ntmps13
    go_wp2
    go_ret3
    exact ⟨rfl, Below.refl _ _⟩
  rw [if_neg h0] at h
  by_cases hm : b = -1
  · rw [if_pos hm] at h
    injection h with h1 h2
    injection h2 with h2 h3
    subst hm h1 h2 h3
    go_enter Try.func13, Try.ntmps13
    go_wp2
    go_ret3
    exact ⟨rfl, Below.refl _ _⟩
  rw [if_neg hm] at h
  injection h with h1 h2
  injection h2 with h2 h3
  have e0 : (b == 0) = false := by simpa using h0
  have e1 : (b == -1) = false := by simpa using hm
  have hF := Lib.hid (tdiv_facts ha ha1 h0 hm)
  go_enter Try.func13, Try.ntmps13
  go_wp2_with fail
  go_quiet (fail)
  obtain ⟨f1, f2, f3, ⟨f4, f5⟩, f6⟩ := hF.out
  have f7 : wrap64 (a.tdiv b) = a.tdiv b := by unfold wrap64; omega
  rw [f7]
  generalize a.tdiv b = x at *
  generalize a.tmod b = y at *
  clear f7 hF
  by_cases hy : y = 0
  · have := fdiv_keep f1 (by omega)
    have hq : x = q := by rw [← h1, this.1]
    have hr : y = r := by rw [← h2, this.2]
    subst hq hr h3
    clear h1 h2 this
    subst hy
    go_wp2
    all_goals go_ret3
    all_goals exact ⟨rfl, below_drewN _ _⟩
  · have hy0 : (y != 0) = true := by simpa using hy
    by_cases hs : (y < 0 ∧ b < 0) ∨ (0 < y ∧ 0 < b)
    · have := fdiv_keep f1 (by omega)
      have hq : x = q := by rw [← h1, this.1]
      have hr : y = r := by rw [← h2, this.2]
      subst hq hr h3
      clear h1 h2 this
      rcases hs with ⟨hs1, hs2⟩ | ⟨hs1, hs2⟩
      · go_wp2
        all_goals go_ret3
        all_goals exact ⟨rfl, below_drewN _ _⟩
      · have hs3 : ¬ y < 0 := by omega
        have hs4 : ¬ b < 0 := by omega
        go_wp2
        all_goals go_ret3
        all_goals exact ⟨rfl, below_drewN _ _⟩
    · have f7 := f6 (by omega)
      have := fdiv_keep (a := a) (b := b) (q := x - 1) (r := y + b) (by rw [Int.mul_sub]; omega) (by omega)
      have hq : x - 1 = q := by rw [← h1, this.1]
      have hr : y + b = r := by rw [← h2, this.2]
      subst hq hr h3
      clear h1 h2 this f1
      by_cases hs1 : y < 0
      · have hs2 : ¬ b < 0 := by omega
        clear hs
        go_wp2
        all_goals go_ret3
        all_goals exact ⟨rfl, below_drewN _ _⟩
      · have hs2 : b < 0 := by omega
        clear hs
        go_wp2
        all_goals go_ret3
        all_goals exact ⟨rfl, below_drewN _ _⟩
end Go.Proofs.Ytdgocbbndkbdbaa
