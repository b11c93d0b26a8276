/- nostosref01: a whole product, and a number of two words, divided. -/
import Derived.Test.YtdgocbbndkbdbaaDiv01
namespace Go.Proofs.Ytdgocbbndkbdbaa
open Go.RowKit

theorem RSize_any (a : Int) (w : World) (h0 : -9223372036854775808 ≤ a) (h1 : a ≤ 9223372036854775807) :
    Calls Try.prog 26 #[.int .i64 a] w fun e w' => e = .returned (.int .u64 (a.natAbs : Nat)) ∧ w = w' := by
  by_cases h : a < 0
  · have e : -(a + 1) + 1 = (a.natAbs : Nat) := by omega
    go_enter Try.func26, Try.ntmps26
    go_wp2
    go_ret
    refine ⟨?_, rfl⟩
    rw [← e]
    rfl
  · have e : IntKind.u64.wrap a = (a.natAbs : Nat) := by rw [u64_wrap]; unfold u64; omega
    rw [← e]
    go_enter Try.func26, Try.ntmps26
    go_wp2
    go_ret
    exact ⟨rfl, rfl⟩

theorem and1 (x : Int) (h0 : 0 ≤ x) (h1 : x < 18446744073709551616) : bits .and .u64 x 1 = x % 2 := by
  obtain ⟨n, rfl⟩ := Int.eq_ofNat_of_zero_le h0
  show IntKind.u64.wrap ((BitVec.ofInt 64 (n : Int) &&& BitVec.ofInt 64 1).toNat : Nat) = _
  rw [BitVec.toNat_and, BitVec.toNat_ofInt, BitVec.toNat_ofInt, IntKind.wrap_u64]
  have e : (((n : Int) % ((2 ^ 64 : Nat) : Int)).toNat) = n := by omega
  rw [e]
  show ((n &&& 1 : Nat) : Int) % _ = _
  rw [Nat.and_one_is_mod]
  omega
/-- A bit of a number. -/
theorem bit_at (b : Int) (k : Nat) (hb : 0 ≤ b) (hb1 : b < 18446744073709551616) : bits .and .u64 (b / 2 ^ k) 1 = ((b.toNat / 2 ^ k % 2 : Nat) : Int) := by
  obtain ⟨n, rfl⟩ := Int.eq_ofNat_of_zero_le hb
  have e : ((n : Int) / 2 ^ k) = ((n / 2 ^ k : Nat) : Int) := by rw [Int.natCast_ediv, Int.natCast_pow]; rfl
  rw [Int.toNat_natCast]
  have hle : n / 2 ^ k ≤ n := Nat.div_le_self _ _
  rw [e]
  generalize n / 2 ^ k = m at *
  rw [and1 _ (by omega) (by omega), Int.natCast_emod]
  rfl
/-- A number of two words, doubled. -/
theorem or_top (H L : Int) (hH : 0 ≤ H) (hH1 : H < 9223372036854775808) (hL : 0 ≤ L) (hL1 : L < 18446744073709551616) : bits .or .u64 (IntKind.u64.wrap (H * 2)) (L / 9223372036854775808) = H * 2 + L / 9223372036854775808 := by
  obtain ⟨h, rfl⟩ := Int.eq_ofNat_of_zero_le hH
  obtain ⟨l, hl⟩ := Int.eq_ofNat_of_zero_le (show 0 ≤ L / 9223372036854775808 by omega)
  have := or_shift (a := h) (b := l) (s := 1) (by omega) (by omega) (by omega)
  rw [hl]
  exact this
theorem half_pow (n k : Nat) : n / 2 ^ k = 2 * (n / 2 ^ (k + 1)) + n / 2 ^ k % 2 := by
  rw [Nat.pow_succ, ← Nat.div_div_eq_div_mul]
  omega
theorem half_small (n k : Nat) (h : n < 18446744073709551616) : n / 2 ^ (k + 1) < 9223372036854775808 := by
  rw [Nat.pow_succ, ← Nat.div_div_eq_div_mul]
  have := Nat.div_le_self n (2 ^ k)
  omega
/-- One round of the product. -/
theorem tm_round {a H L : Int} {q q2 d : Nat} (ha : 0 ≤ a) (ha1 : a < 18446744073709551616) (hq : q < 9223372036854775808) (hH : 0 ≤ H) (hL : 0 ≤ L) (hL1 : L < 18446744073709551616) (h : H * 18446744073709551616 + L = (a.toNat * q : Nat)) (h2 : q2 = 2 * q + d) (hd : d < 2) :
    H < 9223372036854775808 ∧ (d = 0 → (H * 2 + L / 9223372036854775808) * 18446744073709551616 + IntKind.u64.wrap (L * 2) = (a.toNat * q2 : Nat))
    ∧ (d = 1 → IntKind.u64.wrap (IntKind.u64.wrap (L * 2) + a) < a → IntKind.u64.wrap (H * 2 + L / 9223372036854775808 + 1) * 18446744073709551616 + IntKind.u64.wrap (IntKind.u64.wrap (L * 2) + a) = (a.toNat * q2 : Nat))
    ∧ (d = 1 → ¬ IntKind.u64.wrap (IntKind.u64.wrap (L * 2) + a) < a → (H * 2 + L / 9223372036854775808) * 18446744073709551616 + IntKind.u64.wrap (IntKind.u64.wrap (L * 2) + a) = (a.toNat * q2 : Nat)) := by
  have b0 : a.toNat * q ≤ 18446744073709551615 * 9223372036854775807 := Nat.mul_le_mul (by omega) (by omega)
  have b1 : ((a.toNat * q : Nat) : Int) ≤ 170141183460469231704017187605319778305 := Int.ofNat_le.2 b0
  clear b0
  have e2 : ((a.toNat * q2 : Nat) : Int) = 2 * ((a.toNat * q : Nat) : Int) + a * d := by
    rw [h2, Nat.mul_add, Nat.mul_left_comm, Int.natCast_add, Int.natCast_mul, Int.natCast_mul a.toNat d, Int.toNat_of_nonneg ha]
    rfl
  generalize ((a.toNat * q : Nat) : Int) = T at *
  rw [e2]
  clear e2 h2
  have hH1 : H < 9223372036854775808 := by omega
  refine ⟨hH1, ?_, ?_, ?_⟩
  · intro hd0
    subst hd0
    simp only [IntKind.wrap_u64]
    omega
  all_goals
    intro hd1
    subst hd1
    simp only [IntKind.wrap_u64]
    omega

theorem wrap_range (x : Int) : 0 ≤ IntKind.u64.wrap x ∧ IntKind.u64.wrap x < 18446744073709551616 := by rw [IntKind.wrap_u64]; omega
set_option maxHeartbeats 1000000 in
theorem Times_any (a b : Int) (w : World) (ha : 0 ≤ a) (ha1 : a < 18446744073709551616) (hb : 0 ≤ b) (hb1 : b < 18446744073709551616) (x y : Int) (hx : (a.toNat * b.toNat : Nat) / 18446744073709551616 = x) (hy : (a.toNat * b.toNat : Nat) % 18446744073709551616 = y) :
    Calls Try.prog 25 #[.int .u64 a, .int .u64 b] w fun e w' => e = .returned (.tuple #[.int .u64 x, .int .u64 y]) ∧ w = w' := by
  have HX := Lib.hid hx
  have HY := Lib.hid hy
  clear hx hy
  go_enter Try.func25, Try.ntmps25
  go_wp2
  go_loop [6, 7, 8] (fun h l i => ∃ (j : Nat) (H L : Int), j ≤ 64 ∧ h = .int .u64 H ∧ l = .int .u64 L ∧ i = .int .i64 (j - 1) ∧ Hid (0 ≤ H ∧ 0 ≤ L ∧ L < 18446744073709551616 ∧ H * 18446744073709551616 + L = (a.toNat * (b.toNat / 2 ^ j) : Nat))) (fun _ _ i => (intOf i + 1).toNat)
  case atStart => exact ⟨64, 0, 0, by omega, rfl, rfl, by go_num, Lib.hid ⟨by omega, by omega, by omega, by rw [Nat.div_eq_of_lt (by omega)]; rfl⟩⟩
  case round =>
    obtain ⟨j, H, L, hj, rfl, rfl, rfl, HI⟩ := hrel
    cases j with
    | zero =>
      obtain ⟨i0, i1, i2, i3⟩ := HI.out
      rw [Nat.pow_zero, Nat.div_one] at i3
      obtain rfl : H = x := by have := HX.out; omega
      obtain rfl : L = y := by have := HY.out; omega
      clear HX HY HI i3
      go_wp2
      go_ret2
      exact ⟨rfl, rfl⟩
    | succ k =>
      obtain ⟨i0, i1, i2, i3⟩ := HI.out
      clear HI
      obtain ⟨t1, t2, t3, t4⟩ := tm_round ha ha1 (half_small b.toNat k (by omega)) i0 i1 i2 i3 (half_pow b.toNat k) (Nat.mod_lt _ (by decide))
      have hbit := bit_at b k hb hb1
      have hor := or_top H L i0 t1 i1 i2
      have hd2 := Nat.mod_lt (b.toNat / 2 ^ k) (show 0 < 2 by decide)
      generalize b.toNat / 2 ^ k % 2 = d at *
      have TT := Lib.hid t2
      have T3 := Lib.hid t3
      have T4 := Lib.hid t4
      have HR := Lib.hid hor
      have HD2 := Lib.hid hd2
      clear t2 t3 t4 i3 t1 hd2
      by_cases hd : d = 1
      · have hbb : (bits .and .u64 (b / 2 ^ k) 1 == 1) = true := by rw [hbit, hd]; rfl
        have HD := Lib.hid hd
        clear hbit hd hor
        by_cases hc : IntKind.u64.wrap (IntKind.u64.wrap (L * 2) + a) < a
        · go_wp2
          rw [HR.out]
          go_round
          case rel => exact ⟨k, _, _, by omega, rfl, rfl, by go_num, Lib.hid ⟨(wrap_range _).1, (wrap_range _).1, (wrap_range _).2, T3.out HD.out hc⟩⟩
          case measure => simp [intOf] <;> omega
        · go_wp2
          rw [HR.out]
          go_round
          case rel => exact ⟨k, _, _, by omega, rfl, rfl, by go_num, Lib.hid ⟨by omega, (wrap_range _).1, (wrap_range _).2, T4.out HD.out hc⟩⟩
          case measure => simp [intOf] <;> omega
      · have hbb : (bits .and .u64 (b / 2 ^ k) 1 == 1) = false := by rw [hbit, beq_eq_false_iff_ne]; omega
        have HD := Lib.hid hd
        clear hbit hd hor
        go_wp2
        rw [HR.out]
        go_round
        case rel => exact ⟨k, _, _, by omega, rfl, rfl, by go_num, Lib.hid ⟨by omega, (wrap_range _).1, (wrap_range _).2, TT.out (by have := HD.out; have := HD2.out; omega)⟩⟩
        case measure => simp [intOf] <;> omega

/-- A bit beneath a number that is doubled. -/
theorem or_low (H d : Int) (hd : 0 ≤ d) (hd1 : d < 2) : bits .or .u64 (IntKind.u64.wrap (H * 2)) d = IntKind.u64.wrap (H * 2) + d := by
  obtain ⟨h, hh⟩ := Int.eq_ofNat_of_zero_le (show 0 ≤ H % 9223372036854775808 by omega)
  obtain ⟨l, rfl⟩ := Int.eq_ofNat_of_zero_le hd
  have := or_shift (a := h) (b := l) (s := 1) (by omega) (by omega) (by omega)
  have e : IntKind.u64.wrap (H * 2) = IntKind.u64.wrap ((h : Int) * 2 ^ 1) := by
    rw [IntKind.wrap_u64, IntKind.wrap_u64]
    omega
  rw [e, this, IntKind.wrap_u64]
  omega
/-- One round of the division. -/
theorem by_round {c H Q M1 M0 d : Int} (hH : 0 ≤ H) (hHc : H < c) (hc : c < 18446744073709551616) (hQ : 0 ≤ Q) (h : Q * c + H = M1) (hM : M1 < c * 9223372036854775808) (h0 : M0 = 2 * M1 + d) (hd : 0 ≤ d) (hd1 : d < 2) :
    ((H / 9223372036854775808 = 1 ∨ (H / 9223372036854775808 ≠ 1 ∧ c ≤ IntKind.u64.wrap (H * 2) + d)) → 0 ≤ IntKind.u64.wrap (IntKind.u64.wrap (H * 2) + d - c) ∧ IntKind.u64.wrap (IntKind.u64.wrap (H * 2) + d - c) < c ∧ 0 ≤ IntKind.u64.wrap (IntKind.u64.wrap (Q * 2) + 1) ∧ IntKind.u64.wrap (IntKind.u64.wrap (Q * 2) + 1) * c + IntKind.u64.wrap (IntKind.u64.wrap (H * 2) + d - c) = M0)
    ∧ ((H / 9223372036854775808 ≠ 1 ∧ IntKind.u64.wrap (H * 2) + d < c) → 0 ≤ IntKind.u64.wrap (H * 2) + d ∧ 0 ≤ IntKind.u64.wrap (Q * 2) ∧ IntKind.u64.wrap (Q * 2) * c + (IntKind.u64.wrap (H * 2) + d) = M0) := by
  have hQ1 : Q < 9223372036854775808 := by
    have : Q * c < 9223372036854775808 * c := by rw [Int.mul_comm 9223372036854775808 c]; omega
    exact Int.lt_of_mul_lt_mul_right this (by omega)
  have e1 : IntKind.u64.wrap (Q * 2) = 2 * Q := by rw [IntKind.wrap_u64]; omega
  have e2 : IntKind.u64.wrap (2 * Q + 1) = 2 * Q + 1 := by rw [IntKind.wrap_u64]; omega
  rw [e1, e2, Int.add_mul, Int.mul_assoc, Int.one_mul]
  generalize Q * c = Z at *
  simp only [IntKind.wrap_u64]
  clear e1 e2
  refine ⟨fun hh => ?_, fun hh => ?_⟩
  · have e3 : (H * 2 % 18446744073709551616 + d - c) % 18446744073709551616 = 2 * H + d - c := by omega
    rw [e3]
    refine ⟨by omega, by omega, by omega, by omega⟩
  · have e3 : H * 2 % 18446744073709551616 = 2 * H := by omega
    rw [e3]
    refine ⟨by omega, by omega, by omega⟩

/-- A bit of a number of two words. -/
theorem wide_bit (h l : Nat) (k : Nat) (hk : k < 64) : (h * 18446744073709551616 + l) / 2 ^ k = 2 * ((h * 18446744073709551616 + l) / 2 ^ (k + 1)) + l / 2 ^ k % 2 := by
  rw [half_pow (h * 18446744073709551616 + l) k]
  congr 1
  have e : (18446744073709551616 : Nat) = 2 ^ k * (2 * 2 ^ (63 - k)) := by
    rw [← Nat.mul_assoc, ← Nat.pow_succ, ← Nat.pow_add, show k + 1 + (63 - k) = 64 by omega]
  rw [e, Nat.mul_left_comm, Nat.mul_add_div (Nat.pow_pos (by decide)), Nat.mul_left_comm h 2, Nat.mul_add_mod]
theorem wide_less {h l c : Nat} (k : Nat) (hc : h < c) (hl : l < 18446744073709551616) : (h * 18446744073709551616 + l) / 2 ^ (k + 1) < c * 9223372036854775808 := by
  have h1 : h * 18446744073709551616 + l < c * 9223372036854775808 * 2 := by omega
  have h2 : (h * 18446744073709551616 + l) / 2 ^ (k + 1) ≤ (h * 18446744073709551616 + l) / 2 := by
    apply Nat.div_le_div_left _ (by decide)
    rw [Nat.pow_succ]
    have := Nat.pow_pos (n := k) (show 0 < 2 by decide)
    omega
  omega

set_option maxHeartbeats 1000000 in
theorem By_any (h l c : Nat) (w : World) (hc : h < c) (hc1 : c < 18446744073709551616) (hl : l < 18446744073709551616) (x y : Int) (hx : ((h * 18446744073709551616 + l) / c : Nat) = x) (hy : ((h * 18446744073709551616 + l) % c : Nat) = y) :
    Calls Try.prog 27 #[.int .u64 h, .int .u64 l, .int .u64 c] w fun e w' => e = .returned (.tuple #[.int .u64 x, .int .u64 y]) ∧ w = w' := by
  have HX := Lib.hid hx
  have HY := Lib.hid hy
  have HC := Lib.hid hc
  have HL : Hid (∀ k, bits .and .u64 ((l : Int) / 2 ^ k) 1 = ((l / 2 ^ k % 2 : Nat) : Int)) := Lib.hid (fun k => by have := bit_at l k (by omega) (by omega); rw [Int.toNat_natCast] at this; exact this)
  have HLL := Lib.hid hl
  have HC1 : Hid ((c : Int) < 18446744073709551616) := Lib.hid (by omega)
  obtain ⟨C, hC⟩ : ∃ C : Int, (c : Int) = C := ⟨_, rfl⟩
  obtain ⟨L, hL⟩ : ∃ L : Int, (l : Int) = L := ⟨_, rfl⟩
  have HCC := Lib.hid hC
  rw [hC, hL]
  rw [hL] at HL
  rw [hC] at HC1
  obtain ⟨H0, hH0⟩ : ∃ L : Int, (h : Int) = L := ⟨_, rfl⟩
  have HHH := Lib.hid hH0
  rw [hH0]
  clear hx hy hC hL hc hc1 hl hH0
  go_enter Try.func27, Try.ntmps27
  go_wp2
  go_loop [0, 8, 9] (fun h' q i => ∃ (j : Nat) (H Q : Int), j ≤ 64 ∧ h' = .int .u64 H ∧ q = .int .u64 Q ∧ i = .int .i64 (j - 1) ∧ Hid (0 ≤ H ∧ H < C ∧ 0 ≤ Q ∧ Q * C + H = ((h * 18446744073709551616 + l) / 2 ^ j : Nat))) (fun _ _ i => (intOf i + 1).toNat)
  case atStart =>
    refine ⟨64, H0, 0, by omega, rfl, rfl, by go_num, Lib.hid ⟨by have := HHH.out; omega, by have := HHH.out; have := HCC.out; have := HC.out; omega, by omega, ?_⟩⟩
    have e : (h * 18446744073709551616 + l) / 2 ^ 64 = h := by
      have := HLL.out
      show (h * 18446744073709551616 + l) / 18446744073709551616 = h
      omega
    rw [e, Int.zero_mul, HHH.out]
    omega
  case round =>
    obtain ⟨j, H, Q, hj, rfl, rfl, rfl, HI⟩ := hrel
    cases j with
    | zero =>
      obtain ⟨i0, i1, i2, i3⟩ := HI.out
      rw [Nat.pow_zero, Nat.div_one] at i3
      have hq : Q = x ∧ H = y := by
        have e1 := HX.out
        have e2 := HY.out
        have e3 := HCC.out
        rw [Int.natCast_ediv, e3, ← i3] at e1
        rw [Int.natCast_emod, e3, ← i3] at e2
        rw [Int.add_comm, Int.add_mul_ediv_right _ _ (by omega), Int.ediv_eq_zero_of_lt i0 i1] at e1
        rw [Int.add_comm, Int.add_mul_emod_self_right, Int.emod_eq_of_lt i0 i1] at e2
        exact ⟨by omega, e2⟩
      obtain ⟨rfl, rfl⟩ := hq
      clear HX HY HI i0 i1 i2 i3
      go_wp2
      go_ret2
      exact ⟨rfl, rfl⟩
    | succ k =>
      obtain ⟨i0, i1, i2, i3⟩ := HI.out
      clear HI
      have hb := wide_bit h l k (by omega)
      have hl2 := wide_less (h := h) (l := l) (c := c) k HC.out HLL.out
      have hd2 := Nat.mod_lt (l / 2 ^ k) (show 0 < 2 by decide)
      have hbit := HL.out k
      generalize l / 2 ^ k % 2 = d at *
      obtain ⟨t1, t2⟩ := by_round (M0 := ((h * 18446744073709551616 + l) / 2 ^ k : Nat)) (d := d) i0 i1 HC1.out i2 i3 (by have := HCC.out; omega) (by rw [hb]; omega) (by omega) (by omega)
      have hor := or_low H d (by omega) (by omega)
      obtain ⟨X, hX⟩ : ∃ X, IntKind.u64.wrap (H * 2) + (d : Int) = X := ⟨_, rfl⟩
      rw [hX] at t1 t2 hor
      obtain ⟨D, hD⟩ : ∃ D : Int, (d : Int) = D := ⟨_, rfl⟩
      rw [hD] at hbit hor
      have T1 := Lib.hid t1
      have T2 := Lib.hid t2
      clear t1 t2 hb hl2 hd2 hX hD i3 i2
      by_cases ho : H / 9223372036854775808 = 1
      · have hob : (H / 9223372036854775808 == 1) = true := by rw [ho]; rfl
        have HO := Lib.hid ho
        clear ho
        go_wp2
        go_round
        case rel => exact ⟨k, _, _, by omega, rfl, rfl, by go_num, Lib.hid (T1.out (.inl HO.out))⟩
        case measure => simp [intOf] <;> omega
      · have hob : (H / 9223372036854775808 == 1) = false := by rw [beq_eq_false_iff_ne]; exact ho
        have HO := Lib.hid ho
        clear ho
        by_cases hx : C ≤ X
        · go_wp2
          go_round
          case rel => exact ⟨k, _, _, by omega, rfl, rfl, by go_num, Lib.hid (T1.out (.inr ⟨HO.out, hx⟩))⟩
          case measure => simp [intOf] <;> omega
        · go_wp2
          go_round
          case rel => 
            have := T2.out ⟨HO.out, by omega⟩
            exact ⟨k, _, _, by omega, rfl, rfl, by go_num, Lib.hid ⟨this.1, by omega, this.2.1, this.2.2⟩⟩
          case measure => simp [intOf] <;> omega
end Go.Proofs.Ytdgocbbndkbdbaa
