/- The arithmetic of a division by two figures: no program in sight. -/
import Derived.Test.YtdgocbbndkbdbaaLz01
import Derived.Test.YtdgocbbndkbdbaaBits
namespace Go.Proofs.Ytdgocbbndkbdbaa
open Go.RowKit

/-- One figure more is one too many. -/
theorem kn_less {B q v1 v0 r U u1 : Nat} (h1 : q * v1 + r = U) (h2 : B * r + u1 < q * v0) : (U * B + u1) / (v1 * B + v0) < q := by
  rw [Nat.div_lt_iff_lt_mul (by
    rcases Nat.eq_zero_or_pos (v1 * B + v0) with h | h
    · have : v0 = 0 := by omega
      subst this
      omega
    · exact h)]
  have e1 : q * (v1 * B + v0) = q * v1 * B + q * v0 := by rw [Nat.mul_add, Nat.mul_assoc]
  have e2 : U * B = q * v1 * B + r * B := by rw [← h1, Nat.add_mul]
  have e3 : r * B = B * r := Nat.mul_comm _ _
  omega
theorem kn_big {B q V U u1 : Nat} (hU : U < V) (hu : u1 < B) (hq : B ≤ q) : (U * B + u1) / V < q := by
  refine Nat.lt_of_lt_of_le ((Nat.div_lt_iff_lt_mul (by omega)).2 ?_) hq
  have : (U + 1) * B ≤ V * B := Nat.mul_le_mul_right B hU
  rw [Nat.add_mul, Nat.one_mul] at this
  rw [Nat.mul_comm B V]
  omega
/-- It is no longer too many. -/
theorem kn_fit {B q v1 v0 r U u1 : Nat} (hv : 0 < v1 * B + v0) (h1 : q * v1 + r = U) (h2 : q * v0 ≤ B * r + u1) : q ≤ (U * B + u1) / (v1 * B + v0) := by
  rw [Nat.le_div_iff_mul_le hv]
  have e1 : q * (v1 * B + v0) = q * v1 * B + q * v0 := by rw [Nat.mul_add, Nat.mul_assoc]
  have e2 : U * B = q * v1 * B + r * B := by rw [← h1, Nat.add_mul]
  have e3 : r * B = B * r := Nat.mul_comm _ _
  omega
theorem kn_fit2 {B q v1 v0 r U u1 : Nat} (hv : 0 < v1 * B + v0) (h1 : q * v1 + r = U) (hr : B ≤ r) (hq : q ≤ B) (hv0 : v0 < B) : q ≤ (U * B + u1) / (v1 * B + v0) := by
  refine kn_fit hv h1 ?_
  have a1 : q * v0 ≤ B * v0 := Nat.mul_le_mul_right _ hq
  have a2 : B * v0 ≤ B * B := Nat.mul_le_mul_left _ (by omega)
  have a3 : B * B ≤ B * r := Nat.mul_le_mul_left _ hr
  omega
theorem kn_first {v1 v0 U : Nat} (hv : 2147483648 ≤ v1) (hv0 : v0 < 4294967296) (hU : U < v1 * 4294967296 + v0) : U / v1 ≤ 4294967297 := by
  have : U / v1 < 4294967298 := by
    rw [Nat.div_lt_iff_lt_mul (by omega)]
    omega
  omega
theorem kn_step {q v1 r U : Nat} (h : (q + 1) * v1 + r = U) : q * v1 + (r + v1) = U := by
  rw [Nat.add_mul] at h
  omega
theorem kn_ge {U B u1 v1 v0 : Nat} (hv : 0 < v1) : (U * B + u1) / (v1 * B + v0) ≤ U / v1 ∨ B ≤ u1 := by
  rcases Nat.lt_or_ge u1 B with h | h
  · left
    rw [Nat.le_div_iff_mul_le hv]
    have h1 := Nat.div_mul_le_self (U * B + u1) (v1 * B + v0)
    generalize (U * B + u1) / (v1 * B + v0) = q at *
    have e1 : q * (v1 * B + v0) = q * v1 * B + q * v0 := by rw [Nat.mul_add, Nat.mul_assoc]
    have h2 : q * v1 * B < (U + 1) * B := by
      rw [Nat.add_mul, Nat.one_mul]
      omega
    have := Nat.lt_of_mul_lt_mul_right h2
    omega
  · exact .inr h
/-- The whole, out of its two figures. -/
theorem kn_whole {T P V y U u1 u0 B q1 q0 R1 R2 : Nat} (hP : 0 < P) (hy : 0 < y) (hV : V = y * P) (hT : T * P = (U * B + u1) * B + u0) (h1 : (U * B + u1) / V = q1) (h2 : (U * B + u1) % V = R1) (h3 : (R1 * B + u0) / V = q0) (h4 : (R1 * B + u0) % V = R2) :
    T / y = q1 * B + q0 ∧ T % y = R2 / P := by
  have hVp : 0 < V := by rw [hV]; exact Nat.mul_pos hy hP
  have d1 := Nat.div_add_mod (U * B + u1) V
  have d2 := Nat.div_add_mod (R1 * B + u0) V
  rw [h1, h2] at d1
  rw [h3, h4] at d2
  have hR2 : R2 < V := by rw [← h4]; exact Nat.mod_lt _ hVp
  have key : T * P = (q1 * B + q0) * V + R2 := by
    rw [hT, ← d1, Nat.add_mul, Nat.add_mul, Nat.add_assoc, ← d2]
    rw [Nat.mul_comm V q1, Nat.mul_comm V q0, Nat.mul_right_comm q1 V B]
    omega
  have k1 : T * P / V = q1 * B + q0 := by
    rw [key, Nat.mul_comm, Nat.mul_add_div hVp, Nat.div_eq_of_lt hR2, Nat.add_zero]
  have k2 : T * P % V = R2 := by
    rw [key, Nat.mul_comm, Nat.mul_add_mod, Nat.mod_eq_of_lt hR2]
  rw [hV, Nat.mul_div_mul_right _ _ hP] at k1
  rw [hV, Nat.mul_mod_mul_right] at k2
  exact ⟨k1, by rw [← k2, Nat.mul_div_cancel _ hP]⟩
theorem or_shift {a b s : Nat} (hs : s ≤ 63) (ha : a * 2 ^ s < 18446744073709551616) (hb : b < 2 ^ s) : bits .or .u64 (IntKind.u64.wrap ((a : Int) * 2 ^ s)) (b : Int) = ((a * 2 ^ s + b : Nat) : Int) := by
  have e : IntKind.u64.wrap ((a : Int) * 2 ^ s) = ((a * 2 ^ s : Nat) : Int) := by
    have : ((a : Int) * 2 ^ s) = ((a * 2 ^ s : Nat) : Int) := by rw [Int.natCast_mul, Int.natCast_pow]; rfl
    rw [this, IntKind.wrap_u64]
    omega
  have hle : a * 2 ^ s + b < 18446744073709551616 := by
    have h1 : 2 ^ s ∣ 18446744073709551616 := by
      have : (18446744073709551616 : Nat) = 2 ^ 64 := by decide
      rw [this]
      exact Nat.pow_dvd_pow 2 (by omega)
    obtain ⟨k, hk⟩ := h1
    rw [hk] at ha ⊢
    rw [Nat.mul_comm] at ha ⊢
    have := Nat.lt_of_mul_lt_mul_left ha
    have h2 : 2 ^ s * (a + 1) ≤ 2 ^ s * k := Nat.mul_le_mul_left _ this
    rw [Nat.mul_add, Nat.mul_one] at h2
    omega
  rw [e]
  show IntKind.u64.wrap ((BitVec.ofInt 64 ((a * 2 ^ s : Nat) : Int) ||| BitVec.ofInt 64 (b : Int)).toNat : Nat) = _
  rw [BitVec.toNat_or, BitVec.toNat_ofInt, BitVec.toNat_ofInt, IntKind.wrap_u64]
  have hbl : b < 18446744073709551616 := by omega
  have t1 : (((a * 2 ^ s : Nat) : Int) % ((2 ^ 64 : Nat) : Int)).toNat = a * 2 ^ s := by
    generalize a * 2 ^ s = z at *
    omega
  have t2 : ((b : Int) % ((2 ^ 64 : Nat) : Int)).toNat = b := by omega
  rw [t1, t2, nat_join s _ _ (Nat.mul_mod_left _ _) hb]
  omega
theorem mask32 (a : Nat) (ha : a < 18446744073709551616) : bits .and .u64 (a : Int) 4294967295 = ((a % 4294967296 : Nat) : Int) := Mul64.maskN a ha
/-- What the shifted halves are. -/
theorem kn_shift {hi lo y s U u10 : Nat} (hs : s ≤ 63) (hh : hi < y) (hl : lo < 18446744073709551616) (hV : y * 2 ^ s < 18446744073709551616) (hU : hi * 2 ^ s + lo / 2 ^ (64 - s) = U) (h10 : lo * 2 ^ s % 18446744073709551616 = u10) :
    U < y * 2 ^ s ∧ lo / 2 ^ (64 - s) < 2 ^ s ∧ hi * 2 ^ s < 18446744073709551616 ∧ (hi * 18446744073709551616 + lo) * 2 ^ s = U * 18446744073709551616 + u10 := by
  have hp : 0 < 2 ^ s := Nat.pow_pos (by decide)
  have hpp : 2 ^ s * 2 ^ (64 - s) = 18446744073709551616 := by
    rw [← Nat.pow_add, show s + (64 - s) = 64 by omega]
  have hlo : lo / 2 ^ (64 - s) < 2 ^ s := by
    rw [Nat.div_lt_iff_lt_mul (Nat.pow_pos (by decide)), hpp]
    exact hl
  have h1 : (hi + 1) * 2 ^ s ≤ y * 2 ^ s := Nat.mul_le_mul_right _ hh
  rw [Nat.add_mul, Nat.one_mul] at h1
  have h2 : lo * 2 ^ s / 18446744073709551616 = lo / 2 ^ (64 - s) := by
    rw [← hpp, ← Nat.div_div_eq_div_mul, Nat.mul_div_cancel _ hp]
  have h3 := Nat.div_add_mod (lo * 2 ^ s) 18446744073709551616
  rw [h2, h10] at h3
  refine ⟨by omega, hlo, by omega, ?_⟩
  rw [← hU, Nat.add_mul, Nat.add_mul, Nat.mul_right_comm, ← h3]
  omega
theorem kn_sub {U u1 V R1 : Nat} {q : Int} (hq : 0 ≤ q) (h : U * 4294967296 + u1 = q.toNat * V + R1) (hR : R1 < 18446744073709551616) :
    IntKind.u64.wrap (IntKind.u64.wrap (IntKind.u64.wrap ((U : Int) * 4294967296) + (u1 : Int)) - IntKind.u64.wrap (q * (V : Int))) = (R1 : Int) := by
  obtain ⟨q, rfl⟩ := Int.eq_ofNat_of_zero_le hq
  rw [Int.toNat_natCast] at h
  have h1 : ((U : Int) * 4294967296) + (u1 : Int) = (q : Int) * (V : Int) + (R1 : Int) := by
    have h2 := congrArg (fun n : Nat => (n : Int)) h
    simp only [Int.natCast_add, Int.natCast_mul] at h2
    exact h2
  generalize (U : Int) * 4294967296 = X at *
  generalize (q : Int) * (V : Int) = Y at *
  simp only [IntKind.wrap_u64]
  omega
theorem kn_tdiv {U v : Nat} : ((U : Int)).tdiv (v : Int) = ((U / v : Nat) : Int) := by rw [Int.tdiv_eq_ediv_of_nonneg (by omega)]; rfl
theorem kn_rhat {U v : Nat} (hU : U < 18446744073709551616) : IntKind.u64.wrap ((U : Int) - IntKind.u64.wrap (((U / v : Nat) : Int) * (v : Int))) = ((U % v : Nat) : Int) := by
  have hdm := Nat.div_add_mod U v
  have : (((U / v : Nat) : Int) * (v : Int)) = ((v * (U / v) : Nat) : Int) := by rw [Nat.mul_comm]; exact (Int.natCast_mul _ _).symm
  rw [this, IntKind.wrap_u64, IntKind.wrap_u64]
  generalize v * (U / v) = z at *
  omega
theorem kn_fin {a b : Int} {Q : Nat} (ha : 0 ≤ a) (hb : 0 ≤ b) (h : Q = a.toNat * 4294967296 + b.toNat) (hQ : Q < 18446744073709551616) : IntKind.u64.wrap (IntKind.u64.wrap (a * 4294967296) + b) = (Q : Int) := by
  simp only [IntKind.wrap_u64]
  omega
theorem kn_fin2 {a b : Int} {Q : Nat} (ha : 0 ≤ a) (hb : 0 ≤ b) (h : Q = a.toNat * 4294967296 + b.toNat) : a * 4294967296 + b = (Q : Int) := by omega
theorem kn_tt {T U u10 u1 u0 : Nat} (h : T = U * 18446744073709551616 + u10) (h1 : u10 / 4294967296 = u1) (h0 : u10 % 4294967296 = u0) : T = (U * 4294967296 + u1) * 4294967296 + u0 := by
  have e1 : u10 = u1 * 4294967296 + u0 := by omega
  have e2 : U * 4294967296 * 4294967296 = U * 18446744073709551616 := by rw [Nat.mul_assoc]
  rw [h, e1, Nat.add_mul, e2, Nat.add_assoc]
end Go.Proofs.Ytdgocbbndkbdbaa
