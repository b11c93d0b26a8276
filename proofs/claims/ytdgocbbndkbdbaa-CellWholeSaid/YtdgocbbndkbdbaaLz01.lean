/- math/bits: Mul64 and LeadingZeros64. -/
import Derived.Shelf.Bits.Mul64
import Derived.Laws.MathBits
import Derived.Lib.Tables
import Derived.Shelf.Small.Bits
import Derived.Test.YtdgocbbndkbdbaaCell
namespace Go.Proofs.Ytdgocbbndkbdbaa
open Go.RowKit

/-- Mul64's school method, walked as the kit's shelf walks it. -/
theorem Mul64_any (x y : Nat) (w : World) (hx : x < 18446744073709551616) (hy : y < 18446744073709551616) (h l : Nat) (hh : x * y / 18446744073709551616 = h) (hl : x * y % 18446744073709551616 = l) :
    Calls Try.prog 21 #[.int .u64 x, .int .u64 y] w fun e w' => e = .returned (.tuple #[.int .u64 h, .int .u64 l]) ∧ w = w' := by
  subst hh hl
  obtain ⟨bd, bt, bw, hhi⟩ := Lib.mul64_hi x y hx hy
  have ba := Lib.half_mul_le (a := x / 4294967296) (b := y / 4294967296) (by omega) (by omega)
  have bb := Lib.half_mul_le (a := x / 4294967296) (b := y % 4294967296) (by omega) (by omega)
  have bc := Lib.half_mul_le (a := x % 4294967296) (b := y / 4294967296) (by omega) (by omega)
  have ba' : x / 4294967296 * (y / 4294967296) < 18446744073709551616 := by omega
  have bb' : x / 4294967296 * (y % 4294967296) < 18446744073709551616 := by omega
  have bc' : x % 4294967296 * (y / 4294967296) < 18446744073709551616 := by omega
  have bh1 : x / 4294967296 * (y / 4294967296) + (x / 4294967296 * (y % 4294967296) + x % 4294967296 * (y % 4294967296) / 4294967296) / 4294967296 < 18446744073709551616 := by omega
  have bh : x / 4294967296 * (y / 4294967296) + (x / 4294967296 * (y % 4294967296) + x % 4294967296 * (y % 4294967296) / 4294967296) / 4294967296 + ((x / 4294967296 * (y % 4294967296) + x % 4294967296 * (y % 4294967296) / 4294967296) % 4294967296 + x % 4294967296 * (y / 4294967296)) / 4294967296 < 18446744073709551616 := by omega
  go_enter Try.func21, Try.ntmps21
  go_wp2
  simp only [Mul64.maskN x hx, Mul64.maskN y hy, Mul64.divN, Mul64.mulN, Mul64.addN, Mul64.wrapN _ bd, Mul64.wrapN _ bb', Mul64.wrapN _ bt, Mul64.maskN _ bt, Mul64.wrapN _ bc', Mul64.wrapN _ bw, Mul64.wrapN _ ba', Mul64.wrapN _ bh1, Mul64.wrapN _ bh, Mul64.wrapM (x * y)]
  rw [hhi]
  go_ret2
  exact ⟨rfl, rfl⟩

theorem len_index {d : Nat} (h : d < 256) : Lib.len8 (d : Int) = (bitLen d : Nat) := by
  have : ∀ d : Fin 256, Lib.len8 (d.1 : Int) = (bitLen d.1 : Nat) := by decide +kernel
  exact this ⟨d, h⟩
set_option maxRecDepth 100000 in
theorem fold_tab : (⟨((((0 : UInt8) :: 1 :: 2 :: 2 :: 3 :: 3 :: 3 :: 3 :: 4 :: 4 :: 4 :: 4 :: 4 :: 4 :: 4 :: 4 :: 5 :: 5 :: 5 :: 5 :: 5 :: 5 :: 5 :: 5 :: 5 :: 5 :: 5 :: 5 :: 5 :: 5 :: 5 :: 5 :: 6 :: 6 :: 6 :: 6 :: 6 :: 6 :: 6 :: 6 :: 6 :: 6 :: 6 :: 6 :: 6 :: 6 :: 6 :: 6 :: 6 :: 6 :: 6 :: 6 :: 6 :: 6 :: 6 :: 6 :: 6 :: 6 :: 6 :: 6 :: 6 :: 6 :: 6 :: 6 :: []).append ((7 : UInt8) :: 7 :: 7 :: 7 :: 7 :: 7 :: 7 :: 7 :: 7 :: 7 :: 7 :: 7 :: 7 :: 7 :: 7 :: 7 :: 7 :: 7 :: 7 :: 7 :: 7 :: 7 :: 7 :: 7 :: 7 :: 7 :: 7 :: 7 :: 7 :: 7 :: 7 :: 7 :: 7 :: 7 :: 7 :: 7 :: 7 :: 7 :: 7 :: 7 :: 7 :: 7 :: 7 :: 7 :: 7 :: 7 :: 7 :: 7 :: 7 :: 7 :: 7 :: 7 :: 7 :: 7 :: 7 :: 7 :: 7 :: 7 :: 7 :: 7 :: 7 :: 7 :: 7 :: 7 :: [])).append (((8 : UInt8) :: 8 :: 8 :: 8 :: 8 :: 8 :: 8 :: 8 :: 8 :: 8 :: 8 :: 8 :: 8 :: 8 :: 8 :: 8 :: 8 :: 8 :: 8 :: 8 :: 8 :: 8 :: 8 :: 8 :: 8 :: 8 :: 8 :: 8 :: 8 :: 8 :: 8 :: 8 :: 8 :: 8 :: 8 :: 8 :: 8 :: 8 :: 8 :: 8 :: 8 :: 8 :: 8 :: 8 :: 8 :: 8 :: 8 :: 8 :: 8 :: 8 :: 8 :: 8 :: 8 :: 8 :: 8 :: 8 :: 8 :: 8 :: 8 :: 8 :: 8 :: 8 :: 8 :: 8 :: []).append ((8 : UInt8) :: 8 :: 8 :: 8 :: 8 :: 8 :: 8 :: 8 :: 8 :: 8 :: 8 :: 8 :: 8 :: 8 :: 8 :: 8 :: 8 :: 8 :: 8 :: 8 :: 8 :: 8 :: 8 :: 8 :: 8 :: 8 :: 8 :: 8 :: 8 :: 8 :: 8 :: 8 :: 8 :: 8 :: 8 :: 8 :: 8 :: 8 :: 8 :: 8 :: 8 :: 8 :: 8 :: 8 :: 8 :: 8 :: 8 :: 8 :: 8 :: 8 :: 8 :: 8 :: 8 :: 8 :: 8 :: 8 :: 8 :: 8 :: 8 :: 8 :: 8 :: 8 :: 8 :: 8 :: []))).toArray⟩ : ByteArray) = Lib.len8tab := by rfl
theorem len_small {d : Nat} (h : d < 256) : bitLen d ≤ 8 := by
  have : ∀ d : Fin 256, bitLen d.1 ≤ 8 := by decide +kernel
  exact this ⟨d, h⟩
theorem tab_index {d : Int} (h0 : 0 ≤ d) (h : d < 256) : ∀ hh : d.toNat < Lib.len8tab.size, ((Lib.len8tab[d.toNat]'hh).toNat : Int) = (bitLen d.toNat : Nat) := by
  intro hh
  have := len_index (d := d.toNat) (by omega)
  unfold Lib.len8 at this
  rw [Int.toNat_natCast] at this
  rw [← this, getElem?_pos Lib.len8tab d.toNat hh]
  rfl
set_option maxHeartbeats 1000000 in
set_option maxRecDepth 100000 in
theorem Len64_any (y : Int) (w : World) (h0 : 0 ≤ y) (hy : y < 18446744073709551616) :
    Calls Try.prog 29 #[.int .u64 y] w fun e w' => e = .returned (.int .i64 (bitLen y.toNat : Nat)) ∧ w = w' := by
  obtain ⟨k1, y1, e1, hc1, hk1, hb1⟩ : ∃ (k1 : Nat) (y1 : Int), bitLen y.toNat = k1 + bitLen y1.toNat ∧ ((4294967296 ≤ y ∧ k1 = 32 ∧ y / 4294967296 = y1) ∨ (y < 4294967296 ∧ k1 = 0 ∧ y1 = y)) ∧ k1 ≤ 32 ∧ 0 ≤ y1 ∧ y1 < 4294967296 := by
    by_cases h : 4294967296 ≤ y
    · refine ⟨32, y / 4294967296, ?_, .inl ⟨h, rfl, rfl⟩, by omega, by omega⟩
      rw [bitLen_shift y.toNat 32 (by show y.toNat / 4294967296 ≠ 0; omega)]
      congr 2
      show y.toNat / 4294967296 = _
      omega
    · exact ⟨0, y, by omega, .inr ⟨by omega, rfl, rfl⟩, by omega, by omega⟩
  obtain ⟨k2, y2, e2, hc2, hk2, hb2⟩ : ∃ (k2 : Nat) (y2 : Int), bitLen y1.toNat = k2 + bitLen y2.toNat ∧ ((65536 ≤ y1 ∧ k2 = 16 ∧ y1 / 65536 = y2) ∨ (y1 < 65536 ∧ k2 = 0 ∧ y2 = y1)) ∧ k2 ≤ 16 ∧ 0 ≤ y2 ∧ y2 < 65536 := by
    by_cases h : 65536 ≤ y1
    · refine ⟨16, y1 / 65536, ?_, .inl ⟨h, rfl, rfl⟩, by omega, by omega⟩
      rw [bitLen_shift y1.toNat 16 (by show y1.toNat / 65536 ≠ 0; omega)]
      congr 2
      show y1.toNat / 65536 = _
      omega
    · exact ⟨0, y1, by omega, .inr ⟨by omega, rfl, rfl⟩, by omega, by omega⟩
  obtain ⟨k3, y3, e3, hc3, hk3, hb3⟩ : ∃ (k3 : Nat) (y3 : Int), bitLen y2.toNat = k3 + bitLen y3.toNat ∧ ((256 ≤ y2 ∧ k3 = 8 ∧ y2 / 256 = y3) ∨ (y2 < 256 ∧ k3 = 0 ∧ y3 = y2)) ∧ k3 ≤ 8 ∧ 0 ≤ y3 ∧ y3 < 256 := by
    by_cases h : 256 ≤ y2
    · refine ⟨8, y2 / 256, ?_, .inl ⟨h, rfl, rfl⟩, by omega, by omega⟩
      rw [bitLen_shift y2.toNat 8 (by show y2.toNat / 256 ≠ 0; omega)]
      congr 2
      show y2.toNat / 256 = _
      omega
    · exact ⟨0, y2, by omega, .inr ⟨by omega, rfl, rfl⟩, by omega, by omega⟩
  have hix := tab_index hb3.1 hb3.2
  have htab : y3 < (Lib.len8tab.size : Int) := by rw [Lib.len8tab_size]; omega
  have hsm := len_small (d := y3.toNat) (by omega)
  rw [e1, e2, e3]
  clear e1 e2 e3
  generalize bitLen y3.toNat = b at *
  rcases hc1 with ⟨h1, rfl, q1⟩ | ⟨h1, rfl, rfl⟩
  all_goals
    rcases hc2 with ⟨h2, rfl, q2⟩ | ⟨h2, rfl, rfl⟩
    all_goals
      rcases hc3 with ⟨h3, rfl, q3⟩ | ⟨h3, rfl, rfl⟩
      all_goals
        go_enter Try.func29, Try.ntmps29
        rw [fold_tab]
        go_wp2
        go_ret
        refine ⟨?_, rfl⟩
        simp
        try omega
/-- How many zeros stand ahead. -/
theorem Lz_any (y : Nat) (h0 : 0 < y) (h1 : y < 18446744073709551616) :
    ∃ s : Nat, s ≤ 63 ∧ 9223372036854775808 ≤ y * 2 ^ s ∧ y * 2 ^ s < 18446744073709551616 ∧ ∀ w, Calls Try.prog 28 #[.int .u64 y] w fun e w' => e = .returned (.int .i64 s) ∧ w = w' := by
  obtain ⟨k4, k3⟩ := bitLen_spec y
  have k3 := k3 (by omega)
  have hb : 0 < bitLen y := by
    rcases Nat.eq_zero_or_pos (bitLen y) with h | h
    · rw [h] at k4
      simp at k4
      omega
    · exact h
  have hb2 : bitLen y ≤ 64 := by
    rcases Nat.lt_or_ge 64 (bitLen y) with h | h
    · have : 2 ^ 64 ≤ 2 ^ (bitLen y - 1) := Nat.pow_le_pow_right (by decide) (by omega)
      have e : (2 : Nat) ^ 64 = 18446744073709551616 := by decide
      omega
    · exact h
  have hc := fun w => Len64_any y w (by omega) (by omega)
  simp only [Int.toNat_natCast] at hc
  generalize bitLen y = b at *
  refine ⟨64 - b, by omega, ?_, ?_, fun w => ?_⟩
  · have e : 2 ^ (b - 1) * 2 ^ (64 - b) = 9223372036854775808 := by
      rw [← Nat.pow_add, show b - 1 + (64 - b) = 63 by omega]
    rw [← e]
    exact Nat.mul_le_mul_right _ k3
  · have e : 2 ^ b * 2 ^ (64 - b) = 18446744073709551616 := by
      rw [← Nat.pow_add, show b + (64 - b) = 64 by omega]
    rw [← e]
    exact Nat.mul_lt_mul_of_pos_right k4 (Nat.pow_pos (by decide))
  · have HC := Lib.hid hc
    clear hc k3 k4
    go_enter Try.func28, Try.ntmps28
    go_wp2_with fail
    refine (HC.out w).mono ?_
    rintro e w' ⟨rfl, rfl⟩
    go_wp2
    go_ret
    refine ⟨?_, rfl⟩
    simp
    omega
end Go.Proofs.Ytdgocbbndkbdbaa
