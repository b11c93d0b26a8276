
/- Plain words on numbers as bytes. -/
import Derived.Test.YticebanhccgglaaDoorBase
namespace Go.Proofs.YticebanhccgglaaDoor
open Go.RowKit

/-- A number without a sign. -/
def zz (n : Int) : Nat := if 0 ≤ n then (2 * n).toNat else (-2 * n - 1).toNat
theorem zz_lt {n : Int} (h0 : -9223372036854775808 ≤ n) (h1 : n ≤ 9223372036854775807) : zz n < 18446744073709551616 := by unfold zz; split <;> omega
/-- Its groups. -/
def grpD (m : Nat) : List Int := if h : 0 < m then grpD (m / 128) ++ [((m % 128 + 128 : Nat) : Int)] else []
  termination_by m
  decreasing_by exact Nat.div_lt_self h (by decide)
def grp (m : Nat) : List Int := grpD (m / 128) ++ [((m % 128 : Nat) : Int)]
theorem grpD_0 : grpD 0 = [] := by rw [grpD, dif_neg (by omega)]
theorem grpD_pos {m : Nat} (h : 0 < m) : grpD m = grpD (m / 128) ++ [((m % 128 + 128 : Nat) : Int)] := by rw [grpD, dif_pos h]
theorem grpD_len : ∀ (k m : Nat), m < 128 ^ k → (grpD m).length ≤ k
  | 0, m, h => by
    obtain rfl : m = 0 := by simpa using h
    rw [grpD_0]
    simp
  | k + 1, m, h => by
    rcases Nat.eq_zero_or_pos m with h0 | h0
    · subst h0
      rw [grpD_0]
      simp
    · rw [grpD_pos h0]
      have := grpD_len k (m / 128) (Nat.div_lt_of_lt_mul (by rw [Nat.pow_succ, Nat.mul_comm] at h; exact h))
      simp
      omega
theorem grp_len {m : Nat} (h : m < 18446744073709551616) : 1 ≤ (grp m).length ∧ (grp m).length ≤ 10 := by
  have := grpD_len 9 (m / 128) (by show m / 128 < 9223372036854775808; omega)
  unfold grp
  rw [List.length_append, List.length_singleton]
  omega
theorem grpD_range : ∀ (m : Nat), ∀ x ∈ grpD m, 128 ≤ x ∧ x < 256 := by
  intro m
  induction m using Nat.strongRecOn with
  | ind m ih =>
    rcases Nat.eq_zero_or_pos m with h | h
    · subst h
      rw [grpD_0]
      simp
    · rw [grpD_pos h]
      intro x hx
      rcases List.mem_append.1 hx with h1 | h1
      · exact ih (m / 128) (Nat.div_lt_self h (by decide)) x h1
      · rw [List.mem_singleton] at h1
        omega
theorem grp_range (m : Nat) : ∀ x ∈ grp m, 0 ≤ x ∧ x < 256 := by
  intro x hx
  rcases List.mem_append.1 hx with h1 | h1
  · have := grpD_range _ x h1
    omega
  · rw [List.mem_singleton] at h1
    omega

theorem or128 (d : Nat) (h : d < 128) : bits .or .u8 (d : Int) 128 = ((d + 128 : Nat) : Int) := by
  have : ∀ d : Fin 128, bits .or .u8 (d.1 : Int) 128 = ((d.1 + 128 : Nat) : Int) := by decide +kernel
  exact this ⟨d, h⟩
theorem xor_0 (x : Int) (h0 : 0 ≤ x) (h1 : x < 18446744073709551616) : bits .xor .u64 x 0 = x := by
  show IntKind.u64.wrap ((BitVec.ofInt 64 x ^^^ BitVec.ofInt 64 0).toNat : Nat) = _
  rw [BitVec.toNat_xor, BitVec.toNat_ofInt, BitVec.toNat_ofInt, IntKind.wrap_u64]
  show (((x % 18446744073709551616).toNat ^^^ 0 : Nat) : Int) % _ = _
  rw [Nat.xor_zero]
  omega
theorem xor_1 (x : Int) (h0 : 0 ≤ x) (h1 : x < 18446744073709551616) : bits .xor .u64 x 18446744073709551615 = 18446744073709551615 - x := by
  show IntKind.u64.wrap ((BitVec.ofInt 64 x ^^^ BitVec.ofInt 64 18446744073709551615).toNat : Nat) = _
  have e : BitVec.ofInt 64 18446744073709551615 = BitVec.allOnes 64 := by decide
  rw [e, BitVec.xor_allOnes, BitVec.toNat_not, BitVec.toNat_ofInt, IntKind.wrap_u64]
  show (((2 ^ 64 - 1 - (x % 18446744073709551616).toNat : Nat)) : Int) % _ = _
  omega
end Go.Proofs.YticebanhccgglaaDoor
