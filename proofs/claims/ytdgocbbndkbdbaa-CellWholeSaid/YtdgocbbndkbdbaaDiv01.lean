/- math/bits.Div64. -/
import Derived.Test.YtdgocbbndkbdbaaKnuth
namespace Go.Proofs.Ytdgocbbndkbdbaa
open Go.RowKit

set_option maxHeartbeats 4000000 in
set_option maxRecDepth 100000 in
theorem Div64_any (hi lo y : Nat) (w : World) (hy : y < 18446744073709551616) (hh : hi < y) (hl : lo < 18446744073709551616) (Q R : Nat) (hQ : (hi * 18446744073709551616 + lo) / y = Q) (hR : (hi * 18446744073709551616 + lo) % y = R) (hQb : Q < 18446744073709551616) :
    Calls Try.prog 23 #[.int .u64 hi, .int .u64 lo, .int .u64 y] w fun e w' => e = .returned (.tuple #[.int .u64 Q, .int .u64 R]) ∧ Below w.heap.size w w' := by
  have hyb : ((y : Int) == 0) = false := by rw [beq_eq_false_iff_ne]; omega
  by_cases h0 : hi = 0
  · subst h0
    have e1 : ((lo : Int)).tdiv (y : Int) = (Q : Int) := by
      rw [Int.tdiv_eq_ediv_of_nonneg (by omega), ← hQ, Nat.zero_mul, Nat.zero_add]
      rfl
    have e2 : ((lo : Int)).tmod (y : Int) = (R : Int) := by
      rw [Int.tmod_eq_emod_of_nonneg (by omega), ← hR, Nat.zero_mul, Nat.zero_add]
      rfl
    clear hQ hR
    go_enter Try.func23, Try.ntmps23
    go_wp2_with fail
    go_quiet (fail)
    go_wp2
    go_ret2
    exact ⟨rfl, below_drewN _ _⟩
  · have h0b : ((hi : Int) == 0) = false := by rw [beq_eq_false_iff_ne]; omega
    obtain ⟨s, hs, hv0, hv1, HLZ⟩ := Lz_any y (by omega) hy
    have HL := Lib.hid HLZ
    clear HLZ
    obtain ⟨U, hU⟩ : ∃ U, hi * 2 ^ s + lo / 2 ^ (64 - s) = U := ⟨_, rfl⟩
    obtain ⟨u10, h10⟩ : ∃ u, lo * 2 ^ s % 18446744073709551616 = u := ⟨_, rfl⟩
    obtain ⟨hUV, hlo, hhi, hT⟩ := kn_shift hs hh hl hv1 hU h10
    have eU := or_shift hs hhi hlo
    rw [hU] at eU
    have eU : bits .or .u64 (IntKind.u64.wrap ((hi : Int) * 2 ^ s)) ((lo : Int) / 2 ^ (64 - s)) = (U : Int) := by
      rw [← eU]
      congr 1
    have e10 : IntKind.u64.wrap ((lo : Int) * 2 ^ s) = (u10 : Int) := by
      rw [← h10, IntKind.wrap_u64, Int.natCast_emod, Int.natCast_mul, Int.natCast_pow]
      rfl
    obtain ⟨V, hV⟩ : ∃ V, y * 2 ^ s = V := ⟨_, rfl⟩
    have eV : IntKind.u64.wrap ((y : Int) * 2 ^ s) = (V : Int) := by
      have : ((y : Int) * 2 ^ s) = ((y * 2 ^ s : Nat) : Int) := by rw [Int.natCast_mul, Int.natCast_pow]; rfl
      rw [this, hV, IntKind.wrap_u64]
      omega
    rw [hV] at hv0 hv1 hUV
    have hu10 : u10 < 18446744073709551616 := by rw [← h10]; exact Nat.mod_lt _ (by decide)
    obtain ⟨vn1, hvn1⟩ : ∃ v, V / 4294967296 = v := ⟨_, rfl⟩
    obtain ⟨vn0, hvn0⟩ : ∃ v, V % 4294967296 = v := ⟨_, rfl⟩
    obtain ⟨u1, hu1⟩ : ∃ v, u10 / 4294967296 = v := ⟨_, rfl⟩
    obtain ⟨u0, hu0⟩ : ∃ v, u10 % 4294967296 = v := ⟨_, rfl⟩
    have em := mask32 V hv1
    rw [hvn0] at em
    have em2 := mask32 u10 hu10
    rw [hu0] at em2
    have ed1 : (V : Int) / 4294967296 = (vn1 : Int) := by omega
    have ed2 : (u10 : Int) / 4294967296 = (u1 : Int) := by omega
    have b1 : 2147483648 ≤ vn1 ∧ vn1 < 4294967296 := by omega
    have b2 : vn0 < 4294967296 := by omega
    have b3 : u1 < 4294967296 := by omega
    have b4 : u0 < 4294967296 := by omega
    have hVV : V = vn1 * 4294967296 + vn0 := by omega
    have hTT : (hi * 18446744073709551616 + lo) * 2 ^ s = (U * 4294967296 + u1) * 4294967296 + u0 := kn_tt hT hu1 hu0
    have hq1 : U / vn1 ≤ 4294967297 := kn_first b1.1 b2 (by omega)
    have hge : (U * 4294967296 + u1) / V ≤ U / vn1 := by
      have := kn_ge (U := U) (B := 4294967296) (u1 := u1) (v0 := vn0) (show 0 < vn1 by omega)
      rw [← hVV] at this
      omega
    have hdm := Nat.div_add_mod U vn1
    have hmo : U % vn1 < vn1 := Nat.mod_lt _ (by omega)
    have et : ((U : Int)).tdiv (vn1 : Int) = ((U / vn1 : Nat) : Int) := by rw [Int.tdiv_eq_ediv_of_nonneg (by omega)]; rfl
    have hvz : ((vn1 : Int) == 0) = false := by rw [beq_eq_false_iff_ne]; omega
    have erh : IntKind.u64.wrap ((U : Int) - IntKind.u64.wrap (((U / vn1 : Nat) : Int) * (vn1 : Int))) = ((U % vn1 : Nat) : Int) := by
      have : (((U / vn1 : Nat) : Int) * (vn1 : Int)) = ((U / vn1 * vn1 : Nat) : Int) := (Int.natCast_mul _ _).symm
      rw [this, IntKind.wrap_u64, IntKind.wrap_u64, Nat.mul_comm]
      omega
    have HQ1 : Hid (U / vn1 * vn1 + U % vn1 = U) := Lib.hid (by rw [Nat.mul_comm]; exact hdm)
    have HGE := Lib.hid hge
    have HTT := Lib.hid hTT
    have HVV := Lib.hid hVV
    have HV := Lib.hid hV
    have HQ := Lib.hid hQ
    have HR := Lib.hid hR
    have hyp : 0 < y := by omega
    have hq64 : U / vn1 < 18446744073709551616 := by omega
    clear hU h10 hT hlo hhi hV hvn1 hvn0 hu1 hu0 hVV hTT hge hdm hQ hR
    generalize U / vn1 = q1 at *
    generalize U % vn1 = r1 at *
    go_enter Try.func23, Try.ntmps23
    go_wp2_with fail
    refine (HL.out w).mono ?_
    rintro e w' ⟨rfl, rfl⟩
    go_wp2_with fail
    go_loop [15, 16] (fun a b => ∃ q r : Int, a = .int .u64 q ∧ b = .int .u64 r ∧ 0 ≤ q ∧ q ≤ 4294967297 ∧ 0 ≤ r ∧ r < 4294967296 ∧ Hid (q.toNat * vn1 + r.toNat = U) ∧ Hid ((U * 4294967296 + u1) / V ≤ q.toNat)) (fun a b => (intOf a).toNat)
    case atStart => exact ⟨q1, r1, rfl, rfl, by omega, by omega, by omega, by omega, HQ1, HGE⟩
    case round =>
      clear HQ1 HGE hq1 et erh hmo hq64
      obtain ⟨q, r, rfl, rfl, hq0, hq, hr0, hr, HQR, HG⟩ := hrel
      by_cases hA : 4294967296 ≤ q
      · obtain ⟨q', rfl⟩ : ∃ q', q = q' + 1 := ⟨q - 1, by omega⟩
        have hlt := kn_big (B := 4294967296) (V := V) (U := U) (u1 := u1) (q := (q' + 1).toNat) hUV (by omega) (by omega)
        have hst := kn_step (q := q'.toNat) (v1 := vn1) (r := r.toNat) (U := U) (by rw [← HQR.out, show (q' + 1).toNat = q'.toNat + 1 by omega])
        have HST : Hid (q'.toNat * vn1 + (r + vn1).toNat = U) := Lib.hid (by rw [← hst]; congr 1; omega)
        have HLT : Hid ((U * 4294967296 + u1) / V ≤ q'.toNat) := Lib.hid (by omega)
        clear hlt hst HQR HG
        have hq'0 : 0 ≤ q' := by omega
        by_cases hbrk : 4294967296 ≤ r + vn1
        · have hle := kn_fit2 (B := 4294967296) (v1 := vn1) (v0 := vn0) (u1 := u1) (by omega) HST.out (by omega) (by omega) b2
          rw [← HVV.out] at hle
          have HX : Hid ((U * 4294967296 + u1) / V = q'.toNat) := Lib.hid (Nat.le_antisymm HLT.out hle)
          clear hle HST HLT
          obtain ⟨Q1V, hQ1V⟩ : ∃ z : Int, z = q' := ⟨_, rfl⟩
          subst hQ1V
          have hQ1b : 0 ≤ Q1V ∧ Q1V ≤ 4294967296 := by omega
          have hdm := Nat.div_add_mod (U * 4294967296 + u1) V
          rw [HX.out] at hdm
          obtain ⟨R1, hR1⟩ : ∃ R1, (U * 4294967296 + u1) % V = R1 := ⟨_, rfl⟩
          have hUV0 : R1 < V := by rw [← hR1]; exact Nat.mod_lt _ (by omega)
          rw [hR1] at hdm
          have e21 := kn_sub (U := U) (u1 := u1) (V := V) (R1 := R1) (q := Q1V) (by omega) (by rw [Nat.mul_comm (Int.toNat _) V]; exact hdm.symm) (by omega)
          have HR1 := Lib.hid hR1
          clear hdm hR1
          have hq1 : R1 / vn1 ≤ 4294967297 := kn_first b1.1 b2 (by have := HVV.out; omega)
          have hge : (R1 * 4294967296 + u0) / V ≤ R1 / vn1 := by
            have := kn_ge (U := R1) (B := 4294967296) (u1 := u0) (v0 := vn0) (show 0 < vn1 by omega)
            rw [← HVV.out] at this
            omega
          have hmo : R1 % vn1 < vn1 := Nat.mod_lt _ (by omega)
          have et := kn_tdiv (U := R1) (v := vn1)
          have erh := kn_rhat (U := R1) (v := vn1) (by omega)
          have HQ1 : Hid (R1 / vn1 * vn1 + R1 % vn1 = R1) := Lib.hid (by rw [Nat.mul_comm]; exact Nat.div_add_mod _ _)
          have HGE := Lib.hid hge
          have hq64 : R1 / vn1 < 18446744073709551616 := by omega
          clear hge
          generalize R1 / vn1 = q1 at *
          generalize R1 % vn1 = r1 at *
          go_wp2_with fail
          go_loop [16, 18] (fun b a => ∃ q r : Int, a = .int .u64 q ∧ b = .int .u64 r ∧ 0 ≤ q ∧ q ≤ 4294967297 ∧ 0 ≤ r ∧ r < 4294967296 ∧ Hid (q.toNat * vn1 + r.toNat = R1) ∧ Hid ((R1 * 4294967296 + u0) / V ≤ q.toNat)) (fun b a => (intOf a).toNat)
          case atStart => exact ⟨q1, r1, rfl, rfl, by omega, by omega, by omega, by omega, HQ1, HGE⟩
          case round =>
            clear HQ1 HGE hq1 et erh hmo hq64
            obtain ⟨q, r, rfl, rfl, hq0, hq, hr0, hr, HQR, HG⟩ := hrel
            by_cases hA : 4294967296 ≤ q
            · obtain ⟨q', rfl⟩ : ∃ q', q = q' + 1 := ⟨q - 1, by omega⟩
              have hlt := kn_big (B := 4294967296) (V := V) (U := R1) (u1 := u0) (q := (q' + 1).toNat) hUV0 (by omega) (by omega)
              have hst := kn_step (q := q'.toNat) (v1 := vn1) (r := r.toNat) (U := R1) (by rw [← HQR.out, show (q' + 1).toNat = q'.toNat + 1 by omega])
              have HST : Hid (q'.toNat * vn1 + (r + vn1).toNat = R1) := Lib.hid (by rw [← hst]; congr 1; omega)
              have HLT : Hid ((R1 * 4294967296 + u0) / V ≤ q'.toNat) := Lib.hid (by omega)
              clear hlt hst HQR HG
              have hq'0 : 0 ≤ q' := by omega
              by_cases hbrk : 4294967296 ≤ r + vn1
              · have hle := kn_fit2 (B := 4294967296) (v1 := vn1) (v0 := vn0) (u1 := u0) (by omega) HST.out (by omega) (by omega) b2
                rw [← HVV.out] at hle
                have HX0 : Hid ((R1 * 4294967296 + u0) / V = q'.toNat) := Lib.hid (Nat.le_antisymm HLT.out hle)
                clear hle HST HLT
                have hdm2 := Nat.div_add_mod (R1 * 4294967296 + u0) V
                rw [HX0.out] at hdm2
                obtain ⟨R2, hR2⟩ : ∃ R2, (R1 * 4294967296 + u0) % V = R2 := ⟨_, rfl⟩
                have hR2V : R2 < V := by rw [← hR2]; exact Nat.mod_lt _ (by omega)
                rw [hR2] at hdm2
                have e22 := kn_sub (U := R1) (u1 := u0) (V := V) (R1 := R2) (q := q') (by omega) (by rw [Nat.mul_comm (Int.toNat _) V]; exact hdm2.symm) (by omega)
                obtain ⟨z1, z2⟩ := kn_whole (Nat.pow_pos (show 0 < 2 by decide)) hyp HV.out.symm HTT.out HX.out HR1.out HX0.out hR2
                rw [HQ.out] at z1
                rw [HR.out] at z2
                have eF : IntKind.u64.wrap (IntKind.u64.wrap (Q1V * 4294967296) + q') = (Q : Int) := kn_fin (by omega) (by omega) z1 hQb
                have eS : (R2 : Int) / 2 ^ s = (R : Int) := by rw [z2, Int.natCast_ediv, Int.natCast_pow]; rfl
                have EP : Hid (Q1V * 4294967296 + q' = (Q : Int)) := Lib.hid (kn_fin2 (by omega) (by omega) z1)
                clear hdm2 hR2 z1 z2
                go_wp2
                go_ret2
                refine ⟨?_, Below.refl _ _⟩
                first
                  | (simp; done)
                  | (simp; exact EP.out)
                  | (simp; rw [EP.out, IntKind.wrap_u64]; omega)
              · go_wp2
                go_round
                case rel => exact ⟨q', r + vn1, rfl, by go_num, by omega, by omega, by omega, by omega, HST, HLT⟩
                case measure => simp [intOf] <;> omega
            · obtain ⟨br, hbr⟩ : ∃ br : Int, 4294967296 * r = br := ⟨_, rfl⟩
              have hbr0 : 0 ≤ br := by omega
              have hbb : br + u0 < 18446744073709551616 := by omega
              obtain ⟨pv, hpv⟩ : ∃ pv : Int, q * (vn0 : Int) = pv := ⟨_, rfl⟩
              have hpvn : q.toNat * vn0 = pv.toNat := by
                have : ((q.toNat * vn0 : Nat) : Int) = pv := by rw [Int.natCast_mul, Int.toNat_of_nonneg hq0, hpv]
                omega
              have hpb : 0 ≤ pv ∧ pv < 18446744073709551616 := by
                have h1 : q.toNat * vn0 ≤ 4294967295 * 4294967295 := Nat.mul_le_mul (by omega) (by omega)
                have h2 : 0 ≤ q * (vn0 : Int) := Int.mul_nonneg hq0 (by omega)
                omega
              by_cases hp : br + u0 < pv
              · have hqp : 0 < q := by
                  rcases Int.lt_or_eq_of_le hq0 with h | h
                  · exact h
                  · subst h
                    rw [Int.zero_mul] at hpv
                    omega
                obtain ⟨q', rfl⟩ : ∃ q', q = q' + 1 := ⟨q - 1, by omega⟩
                have hlt := kn_less (B := 4294967296) (v1 := vn1) (v0 := vn0) (u1 := u0) HQR.out (by rw [hpvn]; omega)
                rw [← HVV.out] at hlt
                have hst := kn_step (q := q'.toNat) (v1 := vn1) (r := r.toNat) (U := R1) (by rw [← HQR.out, show (q' + 1).toNat = q'.toNat + 1 by omega])
                have HST : Hid (q'.toNat * vn1 + (r + vn1).toNat = R1) := Lib.hid (by rw [← hst]; congr 1; omega)
                have HLT : Hid ((R1 * 4294967296 + u0) / V ≤ q'.toNat) := Lib.hid (by omega)
                clear hlt hst HQR HG hpvn
                have hq'0 : 0 ≤ q' := by omega
                by_cases hbrk : 4294967296 ≤ r + vn1
                · have hle := kn_fit2 (B := 4294967296) (v1 := vn1) (v0 := vn0) (u1 := u0) (by omega) HST.out (by omega) (by omega) b2
                  rw [← HVV.out] at hle
                  have HX0 : Hid ((R1 * 4294967296 + u0) / V = q'.toNat) := Lib.hid (Nat.le_antisymm HLT.out hle)
                  clear hle HST HLT
                  have hdm2 := Nat.div_add_mod (R1 * 4294967296 + u0) V
                  rw [HX0.out] at hdm2
                  obtain ⟨R2, hR2⟩ : ∃ R2, (R1 * 4294967296 + u0) % V = R2 := ⟨_, rfl⟩
                  have hR2V : R2 < V := by rw [← hR2]; exact Nat.mod_lt _ (by omega)
                  rw [hR2] at hdm2
                  have e22 := kn_sub (U := R1) (u1 := u0) (V := V) (R1 := R2) (q := q') (by omega) (by rw [Nat.mul_comm (Int.toNat _) V]; exact hdm2.symm) (by omega)
                  obtain ⟨z1, z2⟩ := kn_whole (Nat.pow_pos (show 0 < 2 by decide)) hyp HV.out.symm HTT.out HX.out HR1.out HX0.out hR2
                  rw [HQ.out] at z1
                  rw [HR.out] at z2
                  have eF : IntKind.u64.wrap (IntKind.u64.wrap (Q1V * 4294967296) + q') = (Q : Int) := kn_fin (by omega) (by omega) z1 hQb
                  have eS : (R2 : Int) / 2 ^ s = (R : Int) := by rw [z2, Int.natCast_ediv, Int.natCast_pow]; rfl
                  have EP : Hid (Q1V * 4294967296 + q' = (Q : Int)) := Lib.hid (kn_fin2 (by omega) (by omega) z1)
                  clear hdm2 hR2 z1 z2
                  go_wp2
                  go_ret2
                  refine ⟨?_, Below.refl _ _⟩
                  first
                    | (simp; done)
                    | (simp; exact EP.out)
                    | (simp; rw [EP.out, IntKind.wrap_u64]; omega)
                · go_wp2
                  go_round
                  case rel => exact ⟨q', r + vn1, rfl, by go_num, by omega, by omega, by omega, by omega, HST, HLT⟩
                  case measure => simp [intOf] <;> omega
              · have hle := kn_fit (B := 4294967296) (v1 := vn1) (v0 := vn0) (u1 := u0) (by omega) HQR.out (by rw [hpvn]; omega)
                rw [← HVV.out] at hle
                have HX0 : Hid ((R1 * 4294967296 + u0) / V = q.toNat) := Lib.hid (Nat.le_antisymm HG.out hle)
                clear hle hpvn HG HQR
                have hdm2 := Nat.div_add_mod (R1 * 4294967296 + u0) V
                rw [HX0.out] at hdm2
                obtain ⟨R2, hR2⟩ : ∃ R2, (R1 * 4294967296 + u0) % V = R2 := ⟨_, rfl⟩
                have hR2V : R2 < V := by rw [← hR2]; exact Nat.mod_lt _ (by omega)
                rw [hR2] at hdm2
                have e22 := kn_sub (U := R1) (u1 := u0) (V := V) (R1 := R2) (q := q) (by omega) (by rw [Nat.mul_comm (Int.toNat _) V]; exact hdm2.symm) (by omega)
                obtain ⟨z1, z2⟩ := kn_whole (Nat.pow_pos (show 0 < 2 by decide)) hyp HV.out.symm HTT.out HX.out HR1.out HX0.out hR2
                rw [HQ.out] at z1
                rw [HR.out] at z2
                have eF : IntKind.u64.wrap (IntKind.u64.wrap (Q1V * 4294967296) + q) = (Q : Int) := kn_fin (by omega) (by omega) z1 hQb
                have eS : (R2 : Int) / 2 ^ s = (R : Int) := by rw [z2, Int.natCast_ediv, Int.natCast_pow]; rfl
                have EP : Hid (Q1V * 4294967296 + q = (Q : Int)) := Lib.hid (kn_fin2 (by omega) (by omega) z1)
                clear hdm2 hR2 z1 z2
                go_wp2
                go_ret2
                refine ⟨?_, Below.refl _ _⟩
                first
                  | (simp; done)
                  | (simp; exact EP.out)
                  | (simp; rw [EP.out, IntKind.wrap_u64]; omega)
        · go_wp2
          go_round
          case rel => exact ⟨q', r + vn1, rfl, by go_num, by omega, by omega, by omega, by omega, HST, HLT⟩
          case measure => simp [intOf] <;> omega
      · obtain ⟨br, hbr⟩ : ∃ br : Int, 4294967296 * r = br := ⟨_, rfl⟩
        have hbr0 : 0 ≤ br := by omega
        have hbb : br + u1 < 18446744073709551616 := by omega
        obtain ⟨pv, hpv⟩ : ∃ pv : Int, q * (vn0 : Int) = pv := ⟨_, rfl⟩
        have hpvn : q.toNat * vn0 = pv.toNat := by
          have : ((q.toNat * vn0 : Nat) : Int) = pv := by rw [Int.natCast_mul, Int.toNat_of_nonneg hq0, hpv]
          omega
        have hpb : 0 ≤ pv ∧ pv < 18446744073709551616 := by
          have h1 : q.toNat * vn0 ≤ 4294967295 * 4294967295 := Nat.mul_le_mul (by omega) (by omega)
          have h2 : 0 ≤ q * (vn0 : Int) := Int.mul_nonneg hq0 (by omega)
          omega
        by_cases hp : br + u1 < pv
        · have hqp : 0 < q := by
            rcases Int.lt_or_eq_of_le hq0 with h | h
            · exact h
            · subst h
              rw [Int.zero_mul] at hpv
              omega
          obtain ⟨q', rfl⟩ : ∃ q', q = q' + 1 := ⟨q - 1, by omega⟩
          have hlt := kn_less (B := 4294967296) (v1 := vn1) (v0 := vn0) (u1 := u1) HQR.out (by rw [hpvn]; omega)
          rw [← HVV.out] at hlt
          have hst := kn_step (q := q'.toNat) (v1 := vn1) (r := r.toNat) (U := U) (by rw [← HQR.out, show (q' + 1).toNat = q'.toNat + 1 by omega])
          have HST : Hid (q'.toNat * vn1 + (r + vn1).toNat = U) := Lib.hid (by rw [← hst]; congr 1; omega)
          have HLT : Hid ((U * 4294967296 + u1) / V ≤ q'.toNat) := Lib.hid (by omega)
          clear hlt hst HQR HG hpvn
          have hq'0 : 0 ≤ q' := by omega
          by_cases hbrk : 4294967296 ≤ r + vn1
          · have hle := kn_fit2 (B := 4294967296) (v1 := vn1) (v0 := vn0) (u1 := u1) (by omega) HST.out (by omega) (by omega) b2
            rw [← HVV.out] at hle
            have HX : Hid ((U * 4294967296 + u1) / V = q'.toNat) := Lib.hid (Nat.le_antisymm HLT.out hle)
            clear hle HST HLT
            obtain ⟨Q1V, hQ1V⟩ : ∃ z : Int, z = q' := ⟨_, rfl⟩
            subst hQ1V
            have hQ1b : 0 ≤ Q1V ∧ Q1V ≤ 4294967296 := by omega
            have hdm := Nat.div_add_mod (U * 4294967296 + u1) V
            rw [HX.out] at hdm
            obtain ⟨R1, hR1⟩ : ∃ R1, (U * 4294967296 + u1) % V = R1 := ⟨_, rfl⟩
            have hUV0 : R1 < V := by rw [← hR1]; exact Nat.mod_lt _ (by omega)
            rw [hR1] at hdm
            have e21 := kn_sub (U := U) (u1 := u1) (V := V) (R1 := R1) (q := Q1V) (by omega) (by rw [Nat.mul_comm (Int.toNat _) V]; exact hdm.symm) (by omega)
            have HR1 := Lib.hid hR1
            clear hdm hR1
            have hq1 : R1 / vn1 ≤ 4294967297 := kn_first b1.1 b2 (by have := HVV.out; omega)
            have hge : (R1 * 4294967296 + u0) / V ≤ R1 / vn1 := by
              have := kn_ge (U := R1) (B := 4294967296) (u1 := u0) (v0 := vn0) (show 0 < vn1 by omega)
              rw [← HVV.out] at this
              omega
            have hmo : R1 % vn1 < vn1 := Nat.mod_lt _ (by omega)
            have et := kn_tdiv (U := R1) (v := vn1)
            have erh := kn_rhat (U := R1) (v := vn1) (by omega)
            have HQ1 : Hid (R1 / vn1 * vn1 + R1 % vn1 = R1) := Lib.hid (by rw [Nat.mul_comm]; exact Nat.div_add_mod _ _)
            have HGE := Lib.hid hge
            have hq64 : R1 / vn1 < 18446744073709551616 := by omega
            clear hge
            generalize R1 / vn1 = q1 at *
            generalize R1 % vn1 = r1 at *
            go_wp2_with fail
            go_loop [16, 18] (fun b a => ∃ q r : Int, a = .int .u64 q ∧ b = .int .u64 r ∧ 0 ≤ q ∧ q ≤ 4294967297 ∧ 0 ≤ r ∧ r < 4294967296 ∧ Hid (q.toNat * vn1 + r.toNat = R1) ∧ Hid ((R1 * 4294967296 + u0) / V ≤ q.toNat)) (fun b a => (intOf a).toNat)
            case atStart => exact ⟨q1, r1, rfl, rfl, by omega, by omega, by omega, by omega, HQ1, HGE⟩
            case round =>
              clear HQ1 HGE hq1 et erh hmo hq64
              obtain ⟨q, r, rfl, rfl, hq0, hq, hr0, hr, HQR, HG⟩ := hrel
              by_cases hA : 4294967296 ≤ q
              · obtain ⟨q', rfl⟩ : ∃ q', q = q' + 1 := ⟨q - 1, by omega⟩
                have hlt := kn_big (B := 4294967296) (V := V) (U := R1) (u1 := u0) (q := (q' + 1).toNat) hUV0 (by omega) (by omega)
                have hst := kn_step (q := q'.toNat) (v1 := vn1) (r := r.toNat) (U := R1) (by rw [← HQR.out, show (q' + 1).toNat = q'.toNat + 1 by omega])
                have HST : Hid (q'.toNat * vn1 + (r + vn1).toNat = R1) := Lib.hid (by rw [← hst]; congr 1; omega)
                have HLT : Hid ((R1 * 4294967296 + u0) / V ≤ q'.toNat) := Lib.hid (by omega)
                clear hlt hst HQR HG
                have hq'0 : 0 ≤ q' := by omega
                by_cases hbrk : 4294967296 ≤ r + vn1
                · have hle := kn_fit2 (B := 4294967296) (v1 := vn1) (v0 := vn0) (u1 := u0) (by omega) HST.out (by omega) (by omega) b2
                  rw [← HVV.out] at hle
                  have HX0 : Hid ((R1 * 4294967296 + u0) / V = q'.toNat) := Lib.hid (Nat.le_antisymm HLT.out hle)
                  clear hle HST HLT
                  have hdm2 := Nat.div_add_mod (R1 * 4294967296 + u0) V
                  rw [HX0.out] at hdm2
                  obtain ⟨R2, hR2⟩ : ∃ R2, (R1 * 4294967296 + u0) % V = R2 := ⟨_, rfl⟩
                  have hR2V : R2 < V := by rw [← hR2]; exact Nat.mod_lt _ (by omega)
                  rw [hR2] at hdm2
                  have e22 := kn_sub (U := R1) (u1 := u0) (V := V) (R1 := R2) (q := q') (by omega) (by rw [Nat.mul_comm (Int.toNat _) V]; exact hdm2.symm) (by omega)
                  obtain ⟨z1, z2⟩ := kn_whole (Nat.pow_pos (show 0 < 2 by decide)) hyp HV.out.symm HTT.out HX.out HR1.out HX0.out hR2
                  rw [HQ.out] at z1
                  rw [HR.out] at z2
                  have eF : IntKind.u64.wrap (IntKind.u64.wrap (Q1V * 4294967296) + q') = (Q : Int) := kn_fin (by omega) (by omega) z1 hQb
                  have eS : (R2 : Int) / 2 ^ s = (R : Int) := by rw [z2, Int.natCast_ediv, Int.natCast_pow]; rfl
                  have EP : Hid (Q1V * 4294967296 + q' = (Q : Int)) := Lib.hid (kn_fin2 (by omega) (by omega) z1)
                  clear hdm2 hR2 z1 z2
                  go_wp2
                  go_ret2
                  refine ⟨?_, Below.refl _ _⟩
                  first
                    | (simp; done)
                    | (simp; exact EP.out)
                    | (simp; rw [EP.out, IntKind.wrap_u64]; omega)
                · go_wp2
                  go_round
                  case rel => exact ⟨q', r + vn1, rfl, by go_num, by omega, by omega, by omega, by omega, HST, HLT⟩
                  case measure => simp [intOf] <;> omega
              · obtain ⟨br, hbr⟩ : ∃ br : Int, 4294967296 * r = br := ⟨_, rfl⟩
                have hbr0 : 0 ≤ br := by omega
                have hbb : br + u0 < 18446744073709551616 := by omega
                obtain ⟨pv, hpv⟩ : ∃ pv : Int, q * (vn0 : Int) = pv := ⟨_, rfl⟩
                have hpvn : q.toNat * vn0 = pv.toNat := by
                  have : ((q.toNat * vn0 : Nat) : Int) = pv := by rw [Int.natCast_mul, Int.toNat_of_nonneg hq0, hpv]
                  omega
                have hpb : 0 ≤ pv ∧ pv < 18446744073709551616 := by
                  have h1 : q.toNat * vn0 ≤ 4294967295 * 4294967295 := Nat.mul_le_mul (by omega) (by omega)
                  have h2 : 0 ≤ q * (vn0 : Int) := Int.mul_nonneg hq0 (by omega)
                  omega
                by_cases hp : br + u0 < pv
                · have hqp : 0 < q := by
                    rcases Int.lt_or_eq_of_le hq0 with h | h
                    · exact h
                    · subst h
                      rw [Int.zero_mul] at hpv
                      omega
                  obtain ⟨q', rfl⟩ : ∃ q', q = q' + 1 := ⟨q - 1, by omega⟩
                  have hlt := kn_less (B := 4294967296) (v1 := vn1) (v0 := vn0) (u1 := u0) HQR.out (by rw [hpvn]; omega)
                  rw [← HVV.out] at hlt
                  have hst := kn_step (q := q'.toNat) (v1 := vn1) (r := r.toNat) (U := R1) (by rw [← HQR.out, show (q' + 1).toNat = q'.toNat + 1 by omega])
                  have HST : Hid (q'.toNat * vn1 + (r + vn1).toNat = R1) := Lib.hid (by rw [← hst]; congr 1; omega)
                  have HLT : Hid ((R1 * 4294967296 + u0) / V ≤ q'.toNat) := Lib.hid (by omega)
                  clear hlt hst HQR HG hpvn
                  have hq'0 : 0 ≤ q' := by omega
                  by_cases hbrk : 4294967296 ≤ r + vn1
                  · have hle := kn_fit2 (B := 4294967296) (v1 := vn1) (v0 := vn0) (u1 := u0) (by omega) HST.out (by omega) (by omega) b2
                    rw [← HVV.out] at hle
                    have HX0 : Hid ((R1 * 4294967296 + u0) / V = q'.toNat) := Lib.hid (Nat.le_antisymm HLT.out hle)
                    clear hle HST HLT
                    have hdm2 := Nat.div_add_mod (R1 * 4294967296 + u0) V
                    rw [HX0.out] at hdm2
                    obtain ⟨R2, hR2⟩ : ∃ R2, (R1 * 4294967296 + u0) % V = R2 := ⟨_, rfl⟩
                    have hR2V : R2 < V := by rw [← hR2]; exact Nat.mod_lt _ (by omega)
                    rw [hR2] at hdm2
                    have e22 := kn_sub (U := R1) (u1 := u0) (V := V) (R1 := R2) (q := q') (by omega) (by rw [Nat.mul_comm (Int.toNat _) V]; exact hdm2.symm) (by omega)
                    obtain ⟨z1, z2⟩ := kn_whole (Nat.pow_pos (show 0 < 2 by decide)) hyp HV.out.symm HTT.out HX.out HR1.out HX0.out hR2
                    rw [HQ.out] at z1
                    rw [HR.out] at z2
                    have eF : IntKind.u64.wrap (IntKind.u64.wrap (Q1V * 4294967296) + q') = (Q : Int) := kn_fin (by omega) (by omega) z1 hQb
                    have eS : (R2 : Int) / 2 ^ s = (R : Int) := by rw [z2, Int.natCast_ediv, Int.natCast_pow]; rfl
                    have EP : Hid (Q1V * 4294967296 + q' = (Q : Int)) := Lib.hid (kn_fin2 (by omega) (by omega) z1)
                    clear hdm2 hR2 z1 z2
                    go_wp2
                    go_ret2
                    refine ⟨?_, Below.refl _ _⟩
                    first
                      | (simp; done)
                      | (simp; exact EP.out)
                      | (simp; rw [EP.out, IntKind.wrap_u64]; omega)
                  · go_wp2
                    go_round
                    case rel => exact ⟨q', r + vn1, rfl, by go_num, by omega, by omega, by omega, by omega, HST, HLT⟩
                    case measure => simp [intOf] <;> omega
                · have hle := kn_fit (B := 4294967296) (v1 := vn1) (v0 := vn0) (u1 := u0) (by omega) HQR.out (by rw [hpvn]; omega)
                  rw [← HVV.out] at hle
                  have HX0 : Hid ((R1 * 4294967296 + u0) / V = q.toNat) := Lib.hid (Nat.le_antisymm HG.out hle)
                  clear hle hpvn HG HQR
                  have hdm2 := Nat.div_add_mod (R1 * 4294967296 + u0) V
                  rw [HX0.out] at hdm2
                  obtain ⟨R2, hR2⟩ : ∃ R2, (R1 * 4294967296 + u0) % V = R2 := ⟨_, rfl⟩
                  have hR2V : R2 < V := by rw [← hR2]; exact Nat.mod_lt _ (by omega)
                  rw [hR2] at hdm2
                  have e22 := kn_sub (U := R1) (u1 := u0) (V := V) (R1 := R2) (q := q) (by omega) (by rw [Nat.mul_comm (Int.toNat _) V]; exact hdm2.symm) (by omega)
                  obtain ⟨z1, z2⟩ := kn_whole (Nat.pow_pos (show 0 < 2 by decide)) hyp HV.out.symm HTT.out HX.out HR1.out HX0.out hR2
                  rw [HQ.out] at z1
                  rw [HR.out] at z2
                  have eF : IntKind.u64.wrap (IntKind.u64.wrap (Q1V * 4294967296) + q) = (Q : Int) := kn_fin (by omega) (by omega) z1 hQb
                  have eS : (R2 : Int) / 2 ^ s = (R : Int) := by rw [z2, Int.natCast_ediv, Int.natCast_pow]; rfl
                  have EP : Hid (Q1V * 4294967296 + q = (Q : Int)) := Lib.hid (kn_fin2 (by omega) (by omega) z1)
                  clear hdm2 hR2 z1 z2
                  go_wp2
                  go_ret2
                  refine ⟨?_, Below.refl _ _⟩
                  first
                    | (simp; done)
                    | (simp; exact EP.out)
                    | (simp; rw [EP.out, IntKind.wrap_u64]; omega)
          · go_wp2
            go_round
            case rel => exact ⟨q', r + vn1, rfl, by go_num, by omega, by omega, by omega, by omega, HST, HLT⟩
            case measure => simp [intOf] <;> omega
        · have hle := kn_fit (B := 4294967296) (v1 := vn1) (v0 := vn0) (u1 := u1) (by omega) HQR.out (by rw [hpvn]; omega)
          rw [← HVV.out] at hle
          have HX : Hid ((U * 4294967296 + u1) / V = q.toNat) := Lib.hid (Nat.le_antisymm HG.out hle)
          clear hle hpvn HG HQR
          obtain ⟨Q1V, hQ1V⟩ : ∃ z : Int, z = q := ⟨_, rfl⟩
          subst hQ1V
          have hQ1b : 0 ≤ Q1V ∧ Q1V ≤ 4294967296 := by omega
          have hdm := Nat.div_add_mod (U * 4294967296 + u1) V
          rw [HX.out] at hdm
          obtain ⟨R1, hR1⟩ : ∃ R1, (U * 4294967296 + u1) % V = R1 := ⟨_, rfl⟩
          have hUV0 : R1 < V := by rw [← hR1]; exact Nat.mod_lt _ (by omega)
          rw [hR1] at hdm
          have e21 := kn_sub (U := U) (u1 := u1) (V := V) (R1 := R1) (q := Q1V) (by omega) (by rw [Nat.mul_comm (Int.toNat _) V]; exact hdm.symm) (by omega)
          have HR1 := Lib.hid hR1
          clear hdm hR1
          have hq1 : R1 / vn1 ≤ 4294967297 := kn_first b1.1 b2 (by have := HVV.out; omega)
          have hge : (R1 * 4294967296 + u0) / V ≤ R1 / vn1 := by
            have := kn_ge (U := R1) (B := 4294967296) (u1 := u0) (v0 := vn0) (show 0 < vn1 by omega)
            rw [← HVV.out] at this
            omega
          have hmo : R1 % vn1 < vn1 := Nat.mod_lt _ (by omega)
          have et := kn_tdiv (U := R1) (v := vn1)
          have erh := kn_rhat (U := R1) (v := vn1) (by omega)
          have HQ1 : Hid (R1 / vn1 * vn1 + R1 % vn1 = R1) := Lib.hid (by rw [Nat.mul_comm]; exact Nat.div_add_mod _ _)
          have HGE := Lib.hid hge
          have hq64 : R1 / vn1 < 18446744073709551616 := by omega
          clear hge
          generalize R1 / vn1 = q1 at *
          generalize R1 % vn1 = r1 at *
          go_wp2_with fail
          go_loop [16, 18] (fun b a => ∃ q r : Int, a = .int .u64 q ∧ b = .int .u64 r ∧ 0 ≤ q ∧ q ≤ 4294967297 ∧ 0 ≤ r ∧ r < 4294967296 ∧ Hid (q.toNat * vn1 + r.toNat = R1) ∧ Hid ((R1 * 4294967296 + u0) / V ≤ q.toNat)) (fun b a => (intOf a).toNat)
          case atStart => exact ⟨q1, r1, rfl, rfl, by omega, by omega, by omega, by omega, HQ1, HGE⟩
          case round =>
            clear HQ1 HGE hq1 et erh hmo hq64
            obtain ⟨q, r, rfl, rfl, hq0, hq, hr0, hr, HQR, HG⟩ := hrel
            by_cases hA : 4294967296 ≤ q
            · obtain ⟨q', rfl⟩ : ∃ q', q = q' + 1 := ⟨q - 1, by omega⟩
              have hlt := kn_big (B := 4294967296) (V := V) (U := R1) (u1 := u0) (q := (q' + 1).toNat) hUV0 (by omega) (by omega)
              have hst := kn_step (q := q'.toNat) (v1 := vn1) (r := r.toNat) (U := R1) (by rw [← HQR.out, show (q' + 1).toNat = q'.toNat + 1 by omega])
              have HST : Hid (q'.toNat * vn1 + (r + vn1).toNat = R1) := Lib.hid (by rw [← hst]; congr 1; omega)
              have HLT : Hid ((R1 * 4294967296 + u0) / V ≤ q'.toNat) := Lib.hid (by omega)
              clear hlt hst HQR HG
              have hq'0 : 0 ≤ q' := by omega
              by_cases hbrk : 4294967296 ≤ r + vn1
              · have hle := kn_fit2 (B := 4294967296) (v1 := vn1) (v0 := vn0) (u1 := u0) (by omega) HST.out (by omega) (by omega) b2
                rw [← HVV.out] at hle
                have HX0 : Hid ((R1 * 4294967296 + u0) / V = q'.toNat) := Lib.hid (Nat.le_antisymm HLT.out hle)
                clear hle HST HLT
                have hdm2 := Nat.div_add_mod (R1 * 4294967296 + u0) V
                rw [HX0.out] at hdm2
                obtain ⟨R2, hR2⟩ : ∃ R2, (R1 * 4294967296 + u0) % V = R2 := ⟨_, rfl⟩
                have hR2V : R2 < V := by rw [← hR2]; exact Nat.mod_lt _ (by omega)
                rw [hR2] at hdm2
                have e22 := kn_sub (U := R1) (u1 := u0) (V := V) (R1 := R2) (q := q') (by omega) (by rw [Nat.mul_comm (Int.toNat _) V]; exact hdm2.symm) (by omega)
                obtain ⟨z1, z2⟩ := kn_whole (Nat.pow_pos (show 0 < 2 by decide)) hyp HV.out.symm HTT.out HX.out HR1.out HX0.out hR2
                rw [HQ.out] at z1
                rw [HR.out] at z2
                have eF : IntKind.u64.wrap (IntKind.u64.wrap (Q1V * 4294967296) + q') = (Q : Int) := kn_fin (by omega) (by omega) z1 hQb
                have eS : (R2 : Int) / 2 ^ s = (R : Int) := by rw [z2, Int.natCast_ediv, Int.natCast_pow]; rfl
                have EP : Hid (Q1V * 4294967296 + q' = (Q : Int)) := Lib.hid (kn_fin2 (by omega) (by omega) z1)
                clear hdm2 hR2 z1 z2
                go_wp2
                go_ret2
                refine ⟨?_, Below.refl _ _⟩
                first
                  | (simp; done)
                  | (simp; exact EP.out)
                  | (simp; rw [EP.out, IntKind.wrap_u64]; omega)
              · go_wp2
                go_round
                case rel => exact ⟨q', r + vn1, rfl, by go_num, by omega, by omega, by omega, by omega, HST, HLT⟩
                case measure => simp [intOf] <;> omega
            · obtain ⟨br, hbr⟩ : ∃ br : Int, 4294967296 * r = br := ⟨_, rfl⟩
              have hbr0 : 0 ≤ br := by omega
              have hbb : br + u0 < 18446744073709551616 := by omega
              obtain ⟨pv, hpv⟩ : ∃ pv : Int, q * (vn0 : Int) = pv := ⟨_, rfl⟩
              have hpvn : q.toNat * vn0 = pv.toNat := by
                have : ((q.toNat * vn0 : Nat) : Int) = pv := by rw [Int.natCast_mul, Int.toNat_of_nonneg hq0, hpv]
                omega
              have hpb : 0 ≤ pv ∧ pv < 18446744073709551616 := by
                have h1 : q.toNat * vn0 ≤ 4294967295 * 4294967295 := Nat.mul_le_mul (by omega) (by omega)
                have h2 : 0 ≤ q * (vn0 : Int) := Int.mul_nonneg hq0 (by omega)
                omega
              by_cases hp : br + u0 < pv
              · have hqp : 0 < q := by
                  rcases Int.lt_or_eq_of_le hq0 with h | h
                  · exact h
                  · subst h
                    rw [Int.zero_mul] at hpv
                    omega
                obtain ⟨q', rfl⟩ : ∃ q', q = q' + 1 := ⟨q - 1, by omega⟩
                have hlt := kn_less (B := 4294967296) (v1 := vn1) (v0 := vn0) (u1 := u0) HQR.out (by rw [hpvn]; omega)
                rw [← HVV.out] at hlt
                have hst := kn_step (q := q'.toNat) (v1 := vn1) (r := r.toNat) (U := R1) (by rw [← HQR.out, show (q' + 1).toNat = q'.toNat + 1 by omega])
                have HST : Hid (q'.toNat * vn1 + (r + vn1).toNat = R1) := Lib.hid (by rw [← hst]; congr 1; omega)
                have HLT : Hid ((R1 * 4294967296 + u0) / V ≤ q'.toNat) := Lib.hid (by omega)
                clear hlt hst HQR HG hpvn
                have hq'0 : 0 ≤ q' := by omega
                by_cases hbrk : 4294967296 ≤ r + vn1
                · have hle := kn_fit2 (B := 4294967296) (v1 := vn1) (v0 := vn0) (u1 := u0) (by omega) HST.out (by omega) (by omega) b2
                  rw [← HVV.out] at hle
                  have HX0 : Hid ((R1 * 4294967296 + u0) / V = q'.toNat) := Lib.hid (Nat.le_antisymm HLT.out hle)
                  clear hle HST HLT
                  have hdm2 := Nat.div_add_mod (R1 * 4294967296 + u0) V
                  rw [HX0.out] at hdm2
                  obtain ⟨R2, hR2⟩ : ∃ R2, (R1 * 4294967296 + u0) % V = R2 := ⟨_, rfl⟩
                  have hR2V : R2 < V := by rw [← hR2]; exact Nat.mod_lt _ (by omega)
                  rw [hR2] at hdm2
                  have e22 := kn_sub (U := R1) (u1 := u0) (V := V) (R1 := R2) (q := q') (by omega) (by rw [Nat.mul_comm (Int.toNat _) V]; exact hdm2.symm) (by omega)
                  obtain ⟨z1, z2⟩ := kn_whole (Nat.pow_pos (show 0 < 2 by decide)) hyp HV.out.symm HTT.out HX.out HR1.out HX0.out hR2
                  rw [HQ.out] at z1
                  rw [HR.out] at z2
                  have eF : IntKind.u64.wrap (IntKind.u64.wrap (Q1V * 4294967296) + q') = (Q : Int) := kn_fin (by omega) (by omega) z1 hQb
                  have eS : (R2 : Int) / 2 ^ s = (R : Int) := by rw [z2, Int.natCast_ediv, Int.natCast_pow]; rfl
                  have EP : Hid (Q1V * 4294967296 + q' = (Q : Int)) := Lib.hid (kn_fin2 (by omega) (by omega) z1)
                  clear hdm2 hR2 z1 z2
                  go_wp2
                  go_ret2
                  refine ⟨?_, Below.refl _ _⟩
                  first
                    | (simp; done)
                    | (simp; exact EP.out)
                    | (simp; rw [EP.out, IntKind.wrap_u64]; omega)
                · go_wp2
                  go_round
                  case rel => exact ⟨q', r + vn1, rfl, by go_num, by omega, by omega, by omega, by omega, HST, HLT⟩
                  case measure => simp [intOf] <;> omega
              · have hle := kn_fit (B := 4294967296) (v1 := vn1) (v0 := vn0) (u1 := u0) (by omega) HQR.out (by rw [hpvn]; omega)
                rw [← HVV.out] at hle
                have HX0 : Hid ((R1 * 4294967296 + u0) / V = q.toNat) := Lib.hid (Nat.le_antisymm HG.out hle)
                clear hle hpvn HG HQR
                have hdm2 := Nat.div_add_mod (R1 * 4294967296 + u0) V
                rw [HX0.out] at hdm2
                obtain ⟨R2, hR2⟩ : ∃ R2, (R1 * 4294967296 + u0) % V = R2 := ⟨_, rfl⟩
                have hR2V : R2 < V := by rw [← hR2]; exact Nat.mod_lt _ (by omega)
                rw [hR2] at hdm2
                have e22 := kn_sub (U := R1) (u1 := u0) (V := V) (R1 := R2) (q := q) (by omega) (by rw [Nat.mul_comm (Int.toNat _) V]; exact hdm2.symm) (by omega)
                obtain ⟨z1, z2⟩ := kn_whole (Nat.pow_pos (show 0 < 2 by decide)) hyp HV.out.symm HTT.out HX.out HR1.out HX0.out hR2
                rw [HQ.out] at z1
                rw [HR.out] at z2
                have eF : IntKind.u64.wrap (IntKind.u64.wrap (Q1V * 4294967296) + q) = (Q : Int) := kn_fin (by omega) (by omega) z1 hQb
                have eS : (R2 : Int) / 2 ^ s = (R : Int) := by rw [z2, Int.natCast_ediv, Int.natCast_pow]; rfl
                have EP : Hid (Q1V * 4294967296 + q = (Q : Int)) := Lib.hid (kn_fin2 (by omega) (by omega) z1)
                clear hdm2 hR2 z1 z2
                go_wp2
                go_ret2
                refine ⟨?_, Below.refl _ _⟩
                first
                  | (simp; done)
                  | (simp; exact EP.out)
                  | (simp; rw [EP.out, IntKind.wrap_u64]; omega)
end Go.Proofs.Ytdgocbbndkbdbaa
