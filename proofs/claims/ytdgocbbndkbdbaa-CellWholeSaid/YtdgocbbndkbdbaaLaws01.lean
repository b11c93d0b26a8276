/- The walks of CellTells, CellDivides and CellShifts. -/
import Derived.Test.YtdgocbbndkbdbaaAwake01
namespace Go.Proofs.Ytdgocbbndkbdbaa
open Go.RowKit

theorem wrap64_range (x : Int) : -9223372036854775808 ≤ wrap64 x ∧ wrap64 x ≤ 9223372036854775807 := by unfold wrap64; omega

set_option maxHeartbeats 1000000 in
theorem CellTells_walk (a b c : Int) (w : World) (ha : -9223372036854775808 ≤ a) (ha1 : a ≤ 9223372036854775807) (hb : -9223372036854775808 ≤ b) (hb1 : b ≤ 9223372036854775807) :
    Calls Try.prog 3 #[.int .i64 a, .int .i64 b, .int .i64 c] w fun e w' => e = .returned (.bool true) ∧ Below w.heap.size w w' := by
  have r1 := wrap64_range (a - b)
  have r2 := wrap64_range (c - b)
  have HW : Hid (∀ w, Calls Try.prog 9 #[.int .i64 (wrap64 (a - b)), .int .i64 (wrap64 (c - b))] w fun e w' => e = .returned (.bool (belowC (wrap64 (a - b)) (wrap64 (c - b)))) ∧ w = w') := Lib.hid (fun w => RBelow_any _ _ w r1.1 r1.2 r2.1 r2.2)
  have HV : Hid (∀ w, Calls Try.prog 11 #[.int .i64 a, .int .i64 b, .int .i64 c] w fun e w' => e = .returned (.bool (belowC (wrap64 (a - b)) (wrap64 (c - b)))) ∧ w = w') := Lib.hid (fun w => Within_any a b c w)
  have HX : Hid (∀ w, Calls Try.prog 9 #[.int .i64 a, .int .i64 b] w fun e w' => e = .returned (.bool (belowC a b)) ∧ w = w') := Lib.hid (fun w => RBelow_any _ _ w ha ha1 hb hb1)
  have HY : Hid (∀ w, Calls Try.prog 10 #[.int .i64 a, .int .i64 b] w fun e w' => e = .returned (.bool (belowC a b)) ∧ w = w') := Lib.hid (fun w => Below_any _ _ w)
  clear r1 r2
  generalize belowC (wrap64 (a - b)) (wrap64 (c - b)) = v at *
  generalize belowC a b = t at *
  cases v
  all_goals
    cases t
    all_goals
      go_enter Try.func3, Try.ntmps3
      go_wp2_with fail
      refine (awake_any w).mono ?_
      rintro e w1 ⟨rfl, hb⟩
      have HB := Lib.hid hb
      clear hb
      go_wp2_with fail
      refine (HW.out _).mono ?_
      rintro e w' ⟨rfl, rfl⟩
      go_wp2_with fail
      refine (HY.out _).mono ?_
      rintro e w' ⟨rfl, rfl⟩
      go_wp2_with fail
      refine (HX.out _).mono ?_
      rintro e w' ⟨rfl, rfl⟩
      go_wp2_with fail
      refine (HV.out _).mono ?_
      rintro e w' ⟨rfl, rfl⟩
      go_wp2_with fail
      refine (Flag_any _ _).mono ?_
      rintro e w' ⟨rfl, rfl⟩
      go_wp2_with fail
      refine (HV.out _).mono ?_
      rintro e w' ⟨rfl, rfl⟩
      go_wp2_with fail
      refine (Flag_any _ _).mono ?_
      rintro e w' ⟨rfl, rfl⟩
      go_wp2_with fail
      refine (Flag_any _ _).mono ?_
      rintro e w' ⟨rfl, rfl⟩
      go_wp2
      go_ret
      exact ⟨rfl, HB.out⟩

set_option maxHeartbeats 1000000 in
theorem RDiv_any (a b : Int) (w : World) (ha : -9223372036854775808 ≤ a) (ha1 : a ≤ 9223372036854775807) (hb : -9223372036854775808 ≤ b) (hb1 : b ≤ 9223372036854775807) (q r : Int) (ok : Bool) (h : divC a b = (q, r, ok)) :
    Calls Try.prog 14 #[.int .i64 a, .int .i64 b] w fun e w' => e = .returned (.tuple #[.int .i64 q, .int .i64 r, .bool ok]) ∧ w = w' := by
  unfold divC at h
  by_cases h0 : b = 0
  · rw [if_pos h0] at h
    injection h with h1 h2
    injection h2 with h2 h3
    subst h0 h1 h2 h3
    go_enter Try.func14, Try.ntmps14
    go_wp2
    go_ret3
    exact ⟨rfl, rfl⟩
  rw [if_neg h0] at h
  by_cases hm : b = -1
  · rw [if_pos hm] at h
    injection h with h1 h2
    injection h2 with h2 h3
    subst hm h1 h2 h3
    have e : wrap64 (0 - a) = wrap64 (-a) := by congr 1; omega
    go_enter Try.func14, Try.ntmps14
    go_wp2
    go_ret3
    refine ⟨?_, rfl⟩
    simp
  rw [if_neg hm] at h
  injection h with h1 h2
  injection h2 with h2 h3
  have e0 : (b == 0) = false := by simpa using h0
  have e1 : (b == -1) = false := by simpa using hm
  obtain ⟨f1, f2, f3, ⟨f4, f5⟩, f6⟩ := tdiv_facts ha ha1 h0 hm
  obtain ⟨x, hx⟩ : ∃ x, a.tdiv b = x := ⟨_, rfl⟩
  obtain ⟨y, hy⟩ : ∃ y, a.tmod b = y := ⟨_, rfl⟩
  rw [hx, hy] at f1
  rw [hy] at f2 f3
  rw [hx] at f4 f5 f6
  clear hy
  have e7 : wrap64 x = x := by unfold wrap64; omega
  have e8 : wrap64 (a - wrap64 (x * b)) = y := by
    rw [Int.mul_comm]
    have : b * x = a - y := by omega
    rw [this]
    unfold wrap64
    omega
  have h3 := h3.symm
  subst h3
  by_cases hy : y = 0
  · have := fdiv_keep f1 (by omega)
    have hq : x = q := by rw [← h1, this.1]
    have hr : y = r := by rw [← h2, this.2]
    subst hq hr
    clear h1 h2 this f1
    subst hy
    go_enter Try.func14, Try.ntmps14
    go_wp2
    all_goals go_ret3
    all_goals exact ⟨rfl, rfl⟩
  · by_cases hs : (y < 0 ∧ b < 0) ∨ (0 < y ∧ 0 < b)
    · have := fdiv_keep f1 (by omega)
      have hq : x = q := by rw [← h1, this.1]
      have hr : y = r := by rw [← h2, this.2]
      subst hq hr
      clear h1 h2 this f1
      rcases hs with ⟨hs1, hs2⟩ | ⟨hs1, hs2⟩
      · have hs3 : ¬ 0 < y := by omega
        have hs4 : ¬ 0 < b := by omega
        go_enter Try.func14, Try.ntmps14
        go_wp2
        all_goals go_ret3
        all_goals exact ⟨rfl, rfl⟩
      · have hs3 : ¬ y < 0 := by omega
        have hs4 : ¬ b < 0 := by omega
        go_enter Try.func14, Try.ntmps14
        go_wp2
        all_goals go_ret3
        all_goals exact ⟨rfl, rfl⟩
    · have f7 := f6 (by omega)
      have := fdiv_keep (a := a) (b := b) (q := x - 1) (r := y + b) (by rw [Int.mul_sub]; omega) (by omega)
      have hq : x - 1 = q := by rw [← h1, this.1]
      have hr : y + b = r := by rw [← h2, this.2]
      subst hq hr
      clear h1 h2 this f1
      by_cases hs1 : y < 0
      · have hs2 : ¬ b < 0 := by omega
        have hs3 : 0 < b := by omega
        have hs4 : ¬ 0 < y := by omega
        clear hs
        go_enter Try.func14, Try.ntmps14
        go_wp2
        all_goals go_ret3
        all_goals exact ⟨rfl, rfl⟩
      · have hs2 : b < 0 := by omega
        have hs3 : 0 < y := by omega
        clear hs
        go_enter Try.func14, Try.ntmps14
        go_wp2
        all_goals go_ret3
        all_goals exact ⟨rfl, rfl⟩

/-- What is told of a quotient. -/
theorem divC_facts {a b q r : Int} {ok : Bool} (ha : -9223372036854775808 ≤ a) (ha1 : a ≤ 9223372036854775807) (hb : -9223372036854775808 ≤ b) (hb1 : b ≤ 9223372036854775807) (h : divC a b = (q, r, ok)) :
    (b = 0 ∧ q = 0 ∧ r = 0 ∧ ok = false) ∨ (b ≠ 0 ∧ ok = true ∧ wrap64 (wrap64 (q * b) + r) = a ∧ ((0 < b ∧ 0 ≤ r ∧ r < b) ∨ (b < 0 ∧ r ≤ 0 ∧ b < r))) := by
  unfold divC at h
  by_cases h0 : b = 0
  · rw [if_pos h0] at h
    injection h with h1 h2
    injection h2 with h2 h3
    exact .inl ⟨h0, h1.symm, h2.symm, h3.symm⟩
  rw [if_neg h0] at h
  refine .inr ⟨h0, ?_⟩
  by_cases hm : b = -1
  · rw [if_pos hm] at h
    injection h with h1 h2
    injection h2 with h2 h3
    refine ⟨h3.symm, ?_, by omega⟩
    subst hm h1 h2
    unfold wrap64
    omega
  · rw [if_neg hm] at h
    injection h with h1 h2
    injection h2 with h2 h3
    have e := Int.mul_fdiv_add_fmod a b
    rw [h1, h2] at e
    refine ⟨h3.symm, ?_, ?_⟩
    · rw [Int.mul_comm]
      have : b * q = a - r := by omega
      rw [this]
      unfold wrap64
      omega
    · rcases Int.lt_or_lt_of_ne h0 with hlt | hgt
      · refine .inr ⟨hlt, ?_⟩
        have := (Int.fdiv_fmod_unique' hlt (a := a) (r := r) (q := q)).1 ⟨h1, h2⟩
        exact ⟨this.2.2, this.2.1⟩
      · refine .inl ⟨hgt, ?_⟩
        have := (Int.fdiv_fmod_unique hgt (a := a) (r := r) (q := q)).1 ⟨h1, h2⟩
        exact ⟨this.2.1, this.2.2⟩

set_option maxHeartbeats 1000000 in
theorem CellDivides_walk (a b : Int) (w : World) (ha : -9223372036854775808 ≤ a) (ha1 : a ≤ 9223372036854775807) (hb : -9223372036854775808 ≤ b) (hb1 : b ≤ 9223372036854775807) :
    Calls Try.prog 4 #[.int .i64 a, .int .i64 b] w fun e w' => e = .returned (.bool true) ∧ Below w.heap.size w w' := by
  obtain ⟨q, r, ok, hd⟩ : ∃ q r ok, divC a b = (q, r, ok) := ⟨_, _, _, rfl⟩
  have HD : Hid (∀ w, Calls Try.prog 13 #[.int .i64 a, .int .i64 b] w fun e w' => e = .returned (.tuple #[.int .i64 q, .int .i64 r, .bool ok]) ∧ Below w.heap.size w w') := Lib.hid (fun w => Div_any a b w ha ha1 hb hb1 q r ok hd)
  have HR : Hid (∀ w, Calls Try.prog 14 #[.int .i64 a, .int .i64 b] w fun e w' => e = .returned (.tuple #[.int .i64 q, .int .i64 r, .bool ok]) ∧ w = w') := Lib.hid (fun w => RDiv_any a b w ha ha1 hb hb1 q r ok hd)
  have hf := divC_facts ha ha1 hb hb1 hd
  clear hd
  rcases hf with ⟨rfl, rfl, rfl, rfl⟩ | ⟨h0, rfl, hm, ⟨h1, h2, h3⟩ | ⟨h1, h2, h3⟩⟩
  case' inr.inl => have h4 : ¬ b < 0 := by omega
  case' inr.inr => have h4 : ¬ 0 < b := by omega
  all_goals
    go_enter Try.func4, Try.ntmps4
    go_wp2_with fail
    refine (awake_any w).mono ?_
    rintro e w1 ⟨rfl, hb⟩
    have HB := Lib.hid hb
    clear hb
    go_wp2_with fail
    refine (HD.out _).mono ?_
    rintro e w2 ⟨rfl, hb⟩
    have HB := Lib.hid (below_two HB.out hb)
    clear hb
    go_wp2_with fail
    refine (HR.out _).mono ?_
    rintro e w3 ⟨rfl, rfl⟩
    go_wp2
    all_goals go_ret
    all_goals (refine ⟨?_, HB.out⟩; simp)

theorem left_0 {a : Int} (ha : -9223372036854775808 ≤ a) (ha1 : a ≤ 9223372036854775807) : leftC a 0 = a := by
  have := leftC_in (a := a) (n := 0) (by decide)
  rw [show ((0 : Nat) : Int) = 0 from rfl] at this
  rw [this, show a * 2 ^ 0 = a by simp]
  unfold wrap64; omega
theorem right_0 {a : Int} (ha : -9223372036854775808 ≤ a) (ha1 : a ≤ 9223372036854775807) : rightC a 0 = a := by
  have := rightC_in (a := a) (n := 0) (by decide)
  rw [show ((0 : Nat) : Int) = 0 from rfl] at this
  rw [this, show u64 a / 2 ^ 0 = u64 a by simp]
  unfold wrap64 u64; omega
theorem u64_wrap64 (x : Int) : u64 (wrap64 x) = u64 x := by unfold wrap64 u64; omega
theorem back_shift {a n : Int} (h0 : -9223372036854775808 ≤ n) (h1 : n ≤ 9223372036854775807) : rightC (leftC (rightC a n) n) n = rightC a n := by
  by_cases h : n < 0 ∨ 63 < n
  · rw [rightC_out h0 h1 h, rightC_out h0 h1 h]
  · obtain ⟨n, rfl⟩ := Int.eq_ofNat_of_zero_le (show 0 ≤ n by omega)
    have hn : n ≤ 63 := by omega
    rw [rightC_in hn, rightC_in hn, leftC_in hn]
    congr 1
    have hp : (0 : Int) < 2 ^ n := Int.pow_pos (by decide)
    have b0 : 0 ≤ u64 a ∧ u64 a < 18446744073709551616 := by unfold u64; omega
    have b1 : 0 ≤ u64 a / 2 ^ n := Int.ediv_nonneg b0.1 (by omega)
    have b2 : u64 a / 2 ^ n * 2 ^ n ≤ u64 a := Int.ediv_mul_le _ (by omega)
    have b3 : 0 ≤ u64 a / 2 ^ n * 2 ^ n := Int.mul_nonneg b1 (by omega)
    have e : u64 (wrap64 (wrap64 (u64 a / 2 ^ n) * 2 ^ n)) = u64 a / 2 ^ n * 2 ^ n := by
      rw [u64_wrap64]
      generalize u64 a / 2 ^ n = x at *
      have : u64 (wrap64 x * 2 ^ n) = u64 (x * 2 ^ n) := by
        have e2 : wrap64 x % 18446744073709551616 = x % 18446744073709551616 := by unfold wrap64; omega
        unfold u64
        rw [Int.mul_emod, e2, ← Int.mul_emod]
      rw [this]
      unfold u64
      omega
    rw [e, Int.mul_ediv_cancel _ (by omega)]

set_option maxHeartbeats 1000000 in
theorem CellShifts_walk (a n : Int) (w : World) (ha : -9223372036854775808 ≤ a) (ha1 : a ≤ 9223372036854775807) (h0 : -9223372036854775808 ≤ n) (h1 : n ≤ 9223372036854775807) :
    Calls Try.prog 7 #[.int .i64 a, .int .i64 n] w fun e w' => e = .returned (.bool true) ∧ Below w.heap.size w w' := by
  have hbk := Lib.hid (back_shift (a := a) h0 h1)
  have h00 := Lib.hid (fun h : n = 0 => (⟨by rw [h]; exact left_0 ha ha1, by rw [h]; exact right_0 ha ha1⟩ : leftC a n = a ∧ rightC a n = a))
  obtain ⟨l, hl⟩ : ∃ l, leftC a n = l := ⟨_, rfl⟩
  obtain ⟨r, hr⟩ : ∃ r, rightC a n = r := ⟨_, rfl⟩
  obtain ⟨m, hm⟩ : ∃ m, leftC r n = m := ⟨_, rfl⟩
  rw [hl, hr] at h00
  rw [hr, hm] at hbk
  have HL : Hid (∀ w, Calls Try.prog 17 #[.int .i64 a, .int .i64 n] w fun e w' => e = .returned (.int .i64 l) ∧ w = w') := Lib.hid (fun w => by rw [← hl]; exact Left_any a n w)
  have HR : Hid (∀ w, Calls Try.prog 18 #[.int .i64 a, .int .i64 n] w fun e w' => e = .returned (.int .i64 r) ∧ w = w') := Lib.hid (fun w => by rw [← hr]; exact Right_any a n w)
  have HM : Hid (∀ w, Calls Try.prog 17 #[.int .i64 r, .int .i64 n] w fun e w' => e = .returned (.int .i64 m) ∧ w = w') := Lib.hid (fun w => by rw [← hm]; exact Left_any r n w)
  have HN : Hid (∀ w, Calls Try.prog 18 #[.int .i64 m, .int .i64 n] w fun e w' => e = .returned (.int .i64 r) ∧ w = w') := Lib.hid (fun w => by have := Right_any m n w; rw [hbk.out] at this; exact this)
  have HRL : Hid (∀ w, Calls Try.prog 19 #[.int .i64 a, .int .i64 n] w fun e w' => e = .returned (.int .i64 l) ∧ w = w') := Lib.hid (fun w => by rw [← hl]; exact RLeft_any a n w ha ha1 h0 h1)
  have HRR : Hid (∀ w, Calls Try.prog 20 #[.int .i64 a, .int .i64 n] w fun e w' => e = .returned (.int .i64 r) ∧ w = w') := Lib.hid (fun w => by rw [← hr]; exact RRight_any a n w ha ha1 h0 h1)
  clear hl hr hm hbk
  go_enter Try.func7, Try.ntmps7
  go_wp2_with fail
  refine (awake_any w).mono ?_
  rintro e w1 ⟨rfl, hb⟩
  have HB := Lib.hid hb
  clear hb
  go_wp2_with fail
  refine (HL.out _).mono ?_
  rintro e w' ⟨rfl, rfl⟩
  go_wp2_with fail
  refine (HR.out _).mono ?_
  rintro e w' ⟨rfl, rfl⟩
  go_wp2_with fail
  refine (HM.out _).mono ?_
  rintro e w' ⟨rfl, rfl⟩
  go_wp2_with fail
  refine (HN.out _).mono ?_
  rintro e w' ⟨rfl, rfl⟩
  go_wp2_with fail
  refine (HRL.out _).mono ?_
  rintro e w' ⟨rfl, rfl⟩
  go_wp2_with fail
  refine (HRR.out _).mono ?_
  rintro e w' ⟨rfl, rfl⟩
  by_cases hn : n < 0
  · go_wp2
    all_goals go_ret
    all_goals exact ⟨rfl, HB.out⟩
  · by_cases hn2 : 0 < n
    · go_wp2
      all_goals go_ret
      all_goals exact ⟨rfl, HB.out⟩
    · obtain ⟨h2, h3⟩ := h00.out (by omega)
      subst h2 h3
      go_wp2
      all_goals go_ret
      all_goals exact ⟨rfl, HB.out⟩
end Go.Proofs.Ytdgocbbndkbdbaa
