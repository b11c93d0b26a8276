/- nostosref01.Scale, by the signs. -/
import Derived.Test.YtdgocbbndkbdbaaScale01
import Derived.Test.YtdgocbbndkbdbaaRTimes01
namespace Go.Proofs.Ytdgocbbndkbdbaa
open Go.RowKit

set_option maxHeartbeats 20000000 in
set_option maxRecDepth 100000 in
theorem RScale_F (a b c : Int) (w : World) (hsg : (a < 0 ∧ b < 0 ∧ ¬ c < 0) ∨ (¬ a < 0 ∧ ¬ b < 0 ∧ ¬ c < 0) ∨ (a < 0 ∧ ¬ b < 0 ∧ c < 0) ∨ (¬ a < 0 ∧ b < 0 ∧ c < 0)) (ha : -9223372036854775808 ≤ a ∧ a ≤ 9223372036854775807) (hb : -9223372036854775808 ≤ b ∧ b ≤ 9223372036854775807) (hc : -9223372036854775808 ≤ c ∧ c ≤ 9223372036854775807) (x y : Int) (ok : Bool) (h : scaleC a b c = (x, y, ok)) :
    Calls Try.prog 16 #[.int .i64 a, .int .i64 b, .int .i64 c] w fun e w' => e = .returned (.tuple #[.int .i64 x, .int .i64 y, .bool ok]) ∧ w = w' := by
  have hAn : a.natAbs ≤ 9223372036854775808 := by omega
  have hBn : b.natAbs ≤ 9223372036854775808 := by omega
  have hCn : c.natAbs ≤ 9223372036854775808 := by omega
  have hPl := scP_lt hAn hBn
  obtain ⟨P, hP⟩ : ∃ P, scP a b = P := ⟨_, rfl⟩
  obtain ⟨H, hH⟩ : ∃ H, P / 18446744073709551616 = H := ⟨_, rfl⟩
  obtain ⟨L, hL⟩ : ∃ L, P % 18446744073709551616 = L := ⟨_, rfl⟩
  have hPP : a.natAbs * b.natAbs = P := hP
  obtain ⟨Ai, hAi⟩ : ∃ z : Int, (a.natAbs : Int) = z := ⟨_, rfl⟩
  obtain ⟨Bi, hBi⟩ : ∃ z : Int, (b.natAbs : Int) = z := ⟨_, rfl⟩
  obtain ⟨Hi, hHi⟩ : ∃ z : Int, (H : Int) = z := ⟨_, rfl⟩
  obtain ⟨Li, hLi⟩ : ∃ z : Int, (L : Int) = z := ⟨_, rfl⟩
  obtain ⟨Ci, hCi⟩ : ∃ z : Int, (c.natAbs : Int) = z := ⟨_, rfl⟩
  have HM : Hid (∀ w, Calls Try.prog 25 #[.int .u64 Ai, .int .u64 Bi] w fun e w' => e = .returned (.tuple #[.int .u64 Hi, .int .u64 Li]) ∧ w = w') := Lib.hid (fun w => Times_any Ai Bi w (by omega) (by omega) (by omega) (by omega) Hi Li (by rw [← hAi, ← hBi, Int.toNat_natCast, Int.toNat_natCast, hPP]; omega) (by rw [← hAi, ← hBi, Int.toNat_natCast, Int.toNat_natCast, hPP]; omega))
  have HSA : Hid (∀ w, Calls Try.prog 26 #[.int .i64 a] w fun e w' => e = .returned (.int .u64 Ai) ∧ w = w') := Lib.hid (fun w => by have := RSize_any a w ha.1 ha.2; rw [hAi] at this; exact this)
  have HSB : Hid (∀ w, Calls Try.prog 26 #[.int .i64 b] w fun e w' => e = .returned (.int .u64 Bi) ∧ w = w') := Lib.hid (fun w => by have := RSize_any b w hb.1 hb.2; rw [hBi] at this; exact this)
  have HSC : Hid (∀ w, Calls Try.prog 26 #[.int .i64 c] w fun e w' => e = .returned (.int .u64 Ci) ∧ w = w') := Lib.hid (fun w => by have := RSize_any c w hc.1 hc.2; rw [hCi] at this; exact this)
  have hdm := Nat.div_add_mod P 18446744073709551616
  rw [hH, hL] at hdm
  have hLl : L < 18446744073709551616 := by rw [← hL]; exact Nat.mod_lt _ (by decide)
  have hHl : H ≤ 4611686018427387904 := by rw [← hH]; omega
  unfold scaleC at h
  rw [hP, hH] at h
  have hbb : 0 ≤ Ai ∧ 0 ≤ Bi := by omega
  by_cases hc0 : c = 0
  · rw [if_pos (.inl hc0)] at h
    injection h with h1 h
    injection h with h2 h3
    subst h1 h2 h3 hc0
    clear hdm hP hH hL hPP hAi hBi hHi hLi hCi
    go_enter Try.func16, Try.ntmps16
    go_wp2_with fail
    refine (HSA.out _).mono ?_
    rintro e w' ⟨rfl, rfl⟩
    go_wp2_with fail
    refine (HSB.out _).mono ?_
    rintro e w' ⟨rfl, rfl⟩
    go_wp2_with fail
    refine (HM.out _).mono ?_
    rintro e w' ⟨rfl, rfl⟩
    go_wp2
    go_ret3
    exact ⟨rfl, rfl⟩
  have hc0b : (c == 0) = false := by simpa using hc0
  by_cases hCH : c.natAbs ≤ H
  · rw [if_pos (.inr hCH)] at h
    injection h with h1 h
    injection h with h2 h3
    subst h1 h2 h3
    have hCH2 : Ci ≤ Hi := by omega
    clear hdm hP hH hL hPP hAi hBi hHi hLi hCi hCH
    go_enter Try.func16, Try.ntmps16
    go_wp2_with fail
    refine (HSA.out _).mono ?_
    rintro e w' ⟨rfl, rfl⟩
    go_wp2_with fail
    refine (HSB.out _).mono ?_
    rintro e w' ⟨rfl, rfl⟩
    go_wp2_with fail
    refine (HM.out _).mono ?_
    rintro e w' ⟨rfl, rfl⟩
    go_wp2_with fail
    refine (HSC.out _).mono ?_
    rintro e w' ⟨rfl, rfl⟩
    go_wp2
    go_ret3
    exact ⟨rfl, rfl⟩
  rw [if_neg (by omega)] at h
  have hCp : 0 < c.natAbs := by omega
  have hPC : P = H * 18446744073709551616 + L := by rw [← hdm, Nat.mul_comm]
  obtain ⟨Q, hQ⟩ : ∃ Q, P / c.natAbs = Q := ⟨_, rfl⟩
  obtain ⟨R, hR⟩ : ∃ R, P % c.natAbs = R := ⟨_, rfl⟩
  have hQb : Q < 18446744073709551616 := by rw [← hQ]; exact sc_quot hCp (by rw [hH]; omega)
  have hRC : R < c.natAbs := by rw [← hR]; exact Nat.mod_lt _ hCp
  obtain ⟨Qi, hQi⟩ : ∃ z : Int, (Q : Int) = z := ⟨_, rfl⟩
  obtain ⟨Ri, hRi⟩ : ∃ z : Int, (R : Int) = z := ⟨_, rfl⟩
  have HD : Hid (∀ w, Calls Try.prog 27 #[.int .u64 Hi, .int .u64 Li, .int .u64 Ci] w fun e w' => e = .returned (.tuple #[.int .u64 Qi, .int .u64 Ri]) ∧ w = w') := Lib.hid (fun w => by
    have := By_any H L c.natAbs w (by omega) (by omega) hLl Qi Ri (by rw [← hPC, hQ]; exact hQi) (by rw [← hPC, hR]; exact hRi)
    rw [hHi, hLi, hCi] at this
    exact this)
  have hPd : scP a b = P := hP
  obtain ⟨C, hC⟩ : ∃ C, c.natAbs = C := ⟨_, rfl⟩
  rw [hC] at hCi hRC hQ hR
  have hPQ : P = 0 → Q = 0 ∧ R = 0 := by
    intro h0
    rw [← hQ, ← hR, h0, Nat.zero_div, Nat.zero_mod]
    exact ⟨rfl, rfl⟩
  have hPR : R ≠ 0 → 0 < P := by
    intro h0
    rcases Nat.eq_zero_or_pos P with h1 | h1
    · have := hPQ h1
      omega
    · exact h1
  unfold scN scL at h
  rw [hPd, hC, hQ, hR] at h
  have bQ : 0 ≤ Qi ∧ Qi < 18446744073709551616 := by omega
  have bR : 0 ≤ Ri ∧ Ri < Ci := by omega
  have bC : 0 < Ci ∧ Ci ≤ 9223372036854775808 := by omega
  have bH : 0 ≤ Hi ∧ Hi < Ci := by omega
  have EE : Hid ((Q : Int) = Qi ∧ (R : Int) = Ri ∧ (C : Int) = Ci) := Lib.hid ⟨hQi, hRi, hCi⟩
  have HH := Lib.hid h
  have HPQ := Lib.hid hPQ
  have HPR := Lib.hid hPR
  clear h hdm hP hH hL hPP hAi hBi hHi hLi hCi hQ hR hQi hRi hPC hPQ hPR hAn hBn hCn hPl hLl hHl hCH hCp hQb hRC hC
  have hS : ((decide (a < 0) != decide (b < 0)) != decide (c < 0)) = false := by rcases hsg with ⟨h1, h2, h3⟩ | ⟨h1, h2, h3⟩ | ⟨h1, h2, h3⟩ | ⟨h1, h2, h3⟩ <;> simp [h1, h2, h3]
  have HSG := Lib.hid hS
  have HX : Hid (¬ ((decide (a < 0) == decide (b < 0)) = decide (c < 0))) := Lib.hid (by rcases hsg with ⟨h1, h2, h3⟩ | ⟨h1, h2, h3⟩ | ⟨h1, h2, h3⟩ | ⟨h1, h2, h3⟩ <;> simp [h1, h2, h3])
  have hy : (decide (a < 0) == decide (b < 0)) = !decide (c < 0) := by rcases hsg with ⟨h1, h2, h3⟩ | ⟨h1, h2, h3⟩ | ⟨h1, h2, h3⟩ | ⟨h1, h2, h3⟩ <;> simp [h1, h2, h3]
  clear hS
  rcases hsg with ⟨ha0, hb0, hcn⟩ | ⟨ha0, hb0, hcn⟩ | ⟨ha0, hb0, hcn⟩ | ⟨ha0, hb0, hcn⟩
  all_goals
    have HBL : Hid (scB a b c = false) := Lib.hid (by unfold scB; rw [HSG.out]; rfl)
    have h := HH.out
    obtain ⟨hQi, hRi, hCi⟩ := EE.out
    rw [HBL.out] at h
    simp only [Bool.false_and] at h
    by_cases hbig : 9223372036854775808 ≤ Qi
    · by_cases heq : Qi = 9223372036854775808
      · rw [if_pos (by first | exact .inl ⟨rfl, by omega⟩ | exact .inl ⟨trivial, by omega⟩ | exact .inr ⟨rfl, by simp; omega⟩ | exact .inr ⟨trivial, by simp; omega⟩)] at h
        injection h with h1 h
        injection h with h2 h3
        subst h1 h2 h3
        clear HH hQi hRi hCi
        have heqb : (Qi == 9223372036854775808) = true := by simpa using heq
        have hlt : ¬ 9223372036854775808 < Qi := by omega
        have HEQ := Lib.hid heq
        clear heq
        go_enter Try.func16, Try.ntmps16
        go_wp2_with fail
        refine (HSA.out _).mono ?_
        rintro e w' ⟨rfl, rfl⟩
        go_wp2_with fail
        refine (HSB.out _).mono ?_
        rintro e w' ⟨rfl, rfl⟩
        go_wp2_with fail
        refine (HM.out _).mono ?_
        rintro e w' ⟨rfl, rfl⟩
        go_wp2_with fail
        refine (HSC.out _).mono ?_
        rintro e w' ⟨rfl, rfl⟩
        go_wp2_with fail
        refine (HSC.out _).mono ?_
        rintro e w' ⟨rfl, rfl⟩
        go_wp2_with fail
        refine (HD.out _).mono ?_
        rintro e w' ⟨rfl, rfl⟩
        go_wp2_with fail
        all_goals try (refine (HSC.out _).mono ?_; rintro e w' ⟨rfl, rfl⟩; go_wp2)
        all_goals try exact absurd (by assumption) HX.out
        all_goals go_ret3
        all_goals refine ⟨?_, rfl⟩
        all_goals
          obtain ⟨hQi, hRi, hCi⟩ := EE.out
          first
            | (simp; done)
            | (simp; omega)
            | (simp only [IntKind.wrap_u64, wrap64]; simp; omega)
            | (simp [IntKind.wrap_u64, wrap64]; omega)
      · have hlt : 9223372036854775808 < Qi := by omega
        rw [if_pos (by first | exact .inl ⟨rfl, by omega⟩ | exact .inl ⟨trivial, by omega⟩ | exact .inr ⟨rfl, by simp; omega⟩ | exact .inr ⟨trivial, by simp; omega⟩)] at h
        injection h with h1 h
        injection h with h2 h3
        subst h1 h2 h3
        clear HH hQi hRi hCi
        clear heq
        go_enter Try.func16, Try.ntmps16
        go_wp2_with fail
        refine (HSA.out _).mono ?_
        rintro e w' ⟨rfl, rfl⟩
        go_wp2_with fail
        refine (HSB.out _).mono ?_
        rintro e w' ⟨rfl, rfl⟩
        go_wp2_with fail
        refine (HM.out _).mono ?_
        rintro e w' ⟨rfl, rfl⟩
        go_wp2_with fail
        refine (HSC.out _).mono ?_
        rintro e w' ⟨rfl, rfl⟩
        go_wp2_with fail
        refine (HSC.out _).mono ?_
        rintro e w' ⟨rfl, rfl⟩
        go_wp2_with fail
        refine (HD.out _).mono ?_
        rintro e w' ⟨rfl, rfl⟩
        go_wp2_with fail
        all_goals try (refine (HSC.out _).mono ?_; rintro e w' ⟨rfl, rfl⟩; go_wp2)
        all_goals try exact absurd (by assumption) HX.out
        all_goals go_ret3
        all_goals refine ⟨?_, rfl⟩
        all_goals
          obtain ⟨hQi, hRi, hCi⟩ := EE.out
          first
            | (simp; done)
            | (simp; omega)
            | (simp only [IntKind.wrap_u64, wrap64]; simp; omega)
            | (simp [IntKind.wrap_u64, wrap64]; omega)
    · have heqb : (Qi == 9223372036854775808) = false := by rw [beq_eq_false_iff_ne]; omega
      have hlt : ¬ 9223372036854775808 < Qi := by omega
      rw [if_neg (by intro hh; simp at hh; omega)] at h
      injection h with h1 h
      injection h with h2 h3
      subst h1 h2 h3
      clear HH hQi hRi hCi
      go_enter Try.func16, Try.ntmps16
      go_wp2_with fail
      refine (HSA.out _).mono ?_
      rintro e w' ⟨rfl, rfl⟩
      go_wp2_with fail
      refine (HSB.out _).mono ?_
      rintro e w' ⟨rfl, rfl⟩
      go_wp2_with fail
      refine (HM.out _).mono ?_
      rintro e w' ⟨rfl, rfl⟩
      go_wp2_with fail
      refine (HSC.out _).mono ?_
      rintro e w' ⟨rfl, rfl⟩
      go_wp2_with fail
      refine (HSC.out _).mono ?_
      rintro e w' ⟨rfl, rfl⟩
      go_wp2_with fail
      refine (HD.out _).mono ?_
      rintro e w' ⟨rfl, rfl⟩
      go_wp2_with fail
      all_goals try (refine (HSC.out _).mono ?_; rintro e w' ⟨rfl, rfl⟩; go_wp2)
      all_goals try exact absurd (by assumption) HX.out
      all_goals go_ret3
      all_goals refine ⟨?_, rfl⟩
      all_goals
        obtain ⟨hQi, hRi, hCi⟩ := EE.out
        first
          | (simp; done)
          | (simp; omega)
          | (simp only [IntKind.wrap_u64, wrap64]; simp; omega)
          | (simp [IntKind.wrap_u64, wrap64]; omega)
end Go.Proofs.Ytdgocbbndkbdbaa
