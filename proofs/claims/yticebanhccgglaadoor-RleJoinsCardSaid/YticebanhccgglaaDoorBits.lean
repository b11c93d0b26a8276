
/- Plain words on bits: two numbers that have no bit in common. -/
import Derived.WalkKit
namespace Go.Proofs.YticebanhccgglaaDoor
open Go.RowKit

theorem u64_join (k : Nat) (hk : k < 8) (x c : Int) (hx0 : 0 ≤ x) (hx : x < 256 ^ k) (hc0 : 0 ≤ c) (hc : c < 256) :
    bits .or .u64 x (IntKind.u64.wrap (IntKind.u64.wrap c * 2 ^ (8 * k))) = x + c * 256 ^ k := by
  have e1 : IntKind.u64.wrap c = c := IntWalk.u64_in _ ⟨by omega, by omega⟩
  rw [e1]
  have h : ∃ P : Nat, (2 : Int) ^ (8 * k) = P ∧ (256 : Int) ^ k = P ∧ P * 256 ≤ 18446744073709551616 ∧ P = 2 ^ (8 * k) := by
    rcases k with _ | _ | _ | _ | _ | _ | _ | _ | k
    all_goals first | omega | exact ⟨_, by rfl, by rfl, by decide, by rfl⟩
  obtain ⟨P, h1, h2, h3, h4⟩ := h
  rw [h1, h2]
  rw [h2] at hx
  have hP : (0 : Int) ≤ P := Int.natCast_nonneg P
  have hm : 0 ≤ c * P := Int.mul_nonneg hc0 hP
  have hm2 : c * P ≤ 255 * P := Int.mul_le_mul_of_nonneg_right (by omega) hP
  have e2 : IntKind.u64.wrap (c * P) = c * P := IntWalk.u64_in _ ⟨by omega, by omega⟩
  rw [e2, u64_or x (c * P) hx0 (by omega) hm (by omega), Nat.or_comm, nat_join (8 * k)]
  · omega
  · obtain ⟨C, rfl⟩ := Int.eq_ofNat_of_zero_le hc0
    have : ((C : Int) * (P : Int)).toNat = C * P := by
      rw [← Int.natCast_mul]; rfl
    rw [this, h4, Nat.mul_mod_left]
  · rw [← h4]; omega

theorem i64_join (x c : Int) (h0 : 0 ≤ c) (h1 : c < 256) : bits .or .i64 (wrap64 (x * 256)) c = wrap64 (x * 256 + c) := by
  have key : (BitVec.ofInt 64 (wrap64 (x * 256)) ||| BitVec.ofInt 64 c).toNat = (wrap64 (x * 256) % 18446744073709551616).toNat + c.toNat := by
    rw [BitVec.toNat_or, BitVec.toNat_ofInt, BitVec.toNat_ofInt]
    show (wrap64 (x * 256) % 18446744073709551616).toNat ||| (c % 18446744073709551616).toNat = _
    rw [show c % 18446744073709551616 = c by omega, nat_join 8]
    · unfold wrap64; omega
    · omega
  show IntKind.i64.wrap ((BitVec.ofInt 64 (wrap64 (x * 256)) ||| BitVec.ofInt 64 c).toNat : Nat) = _
  rw [key, IntKind.wrap_i64]
  unfold wrap64
  omega
end Go.Proofs.YticebanhccgglaaDoor
