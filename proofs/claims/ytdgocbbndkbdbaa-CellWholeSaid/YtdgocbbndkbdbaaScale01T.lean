/- cell.Scale, where the signs of its factors differ. -/
import Derived.Test.YtdgocbbndkbdbaaScale01
namespace Go.Proofs.Ytdgocbbndkbdbaa
open Go.RowKit

set_option maxHeartbeats 20000000 in
set_option maxRecDepth 100000 in
theorem Scale_T (a b c : Int) (w : World) (hsg : a < 0 ∧ ¬ b < 0) (ha : -9223372036854775808 ≤ a ∧ a ≤ 9223372036854775807) (hb : -9223372036854775808 ≤ b ∧ b ≤ 9223372036854775807) (hc : -9223372036854775808 ≤ c ∧ c ≤ 9223372036854775807) (x y : Int) (ok : Bool) (h : scaleC a b c = (x, y, ok)) :
    Calls Try.prog 15 #[.int .i64 a, .int .i64 b, .int .i64 c] w fun e w' => e = .returned (.tuple #[.int .i64 x, .int .i64 y, .bool ok]) ∧ Below w.heap.size w w' := by
  have hmf : ∀ (fn : Fn) (first cap : Array Value) (w : World), (Instr.makeFunc fn first cap).run Try.prog w = .ok (.func fn first cap) w := fun _ _ _ _ => rfl
  have hAn : a.natAbs ≤ 9223372036854775808 := by omega
  have hBn : b.natAbs ≤ 9223372036854775808 := by omega
  have hCn : c.natAbs ≤ 9223372036854775808 := by omega
  have hPl := scP_lt hAn hBn
  obtain ⟨P, hP⟩ : ∃ P, scP a b = P := ⟨_, rfl⟩
  obtain ⟨H, hH⟩ : ∃ H, P / 18446744073709551616 = H := ⟨_, rfl⟩
  obtain ⟨L, hL⟩ : ∃ L, P % 18446744073709551616 = L := ⟨_, rfl⟩
  have HM : Hid (∀ w, Calls Try.prog 21 #[.int .u64 (a.natAbs : Nat), .int .u64 (b.natAbs : Nat)] w fun e w' => e = .returned (.tuple #[.int .u64 H, .int .u64 L]) ∧ w = w') := Lib.hid (fun w => Mul64_any a.natAbs b.natAbs w (by omega) (by omega) H L (by rw [← hH, ← hP]; rfl) (by rw [← hL, ← hP]; rfl))
  have HSA : Hid (∀ w, Calls Try.prog 22 #[.int .i64 a] w fun e w' => e = .returned (.int .u64 (a.natAbs : Nat)) ∧ w = w') := Lib.hid (fun w => size_any a w ha.1 ha.2)
  have HSB : Hid (∀ w, Calls Try.prog 22 #[.int .i64 b] w fun e w' => e = .returned (.int .u64 (b.natAbs : Nat)) ∧ w = w') := Lib.hid (fun w => size_any b w hb.1 hb.2)
  have HSC : Hid (∀ w, Calls Try.prog 22 #[.int .i64 c] w fun e w' => e = .returned (.int .u64 (c.natAbs : Nat)) ∧ w = w') := Lib.hid (fun w => size_any c w hc.1 hc.2)
  have hdm := Nat.div_add_mod P 18446744073709551616
  rw [hH, hL] at hdm
  have hLl : L < 18446744073709551616 := by rw [← hL]; exact Nat.mod_lt _ (by decide)
  have hHl : H ≤ 4611686018427387904 := by rw [← hH]; omega
  unfold scaleC at h
  rw [hP, hH] at h
  by_cases hc0 : c = 0
  · rw [if_pos (.inl hc0)] at h
    injection h with h1 h
    injection h with h2 h3
    subst h1 h2 h3 hc0
    clear hdm hP hH hL
    go_enter Try.func15, Try.ntmps15
    go_wp2_with fail
    refine (HSA.out _).mono ?_
    rintro e w' ⟨rfl, rfl⟩
    go_wp2_with fail
    refine (HSB.out _).mono ?_
    rintro e w' ⟨rfl, rfl⟩
    go_wp2_with fail
    refine (HM.out _).mono ?_
    rintro e w' ⟨rfl, rfl⟩
    go_wp2_with fail
    refine (HSC.out _).mono ?_
    rintro e w' ⟨rfl, rfl⟩
    go_wp2
    go_ret3
    exact ⟨rfl, below_two (below_lit w _) (below_lit _ _)⟩
  have hc0b : (c == 0) = false := by simpa using hc0
  by_cases hCH : c.natAbs ≤ H
  · rw [if_pos (.inr hCH)] at h
    injection h with h1 h
    injection h with h2 h3
    subst h1 h2 h3
    clear hdm hP hH hL
    generalize c.natAbs = C at *
    generalize a.natAbs = A at *
    generalize b.natAbs = B at *
    go_enter Try.func15, Try.ntmps15
    go_wp2_with fail
    refine (HSA.out _).mono ?_
    rintro e w' ⟨rfl, rfl⟩
    go_wp2_with fail
    refine (HSB.out _).mono ?_
    rintro e w' ⟨rfl, rfl⟩
    go_wp2_with fail
    refine (HM.out _).mono ?_
    rintro e w' ⟨rfl, rfl⟩
    go_wp2_with fail
    refine (HSC.out _).mono ?_
    rintro e w' ⟨rfl, rfl⟩
    go_wp2
    go_ret3
    exact ⟨rfl, below_two (below_lit w _) (below_lit _ _)⟩
  rw [if_neg (by omega)] at h
  have hCp : 0 < c.natAbs := by omega
  have hPC : P = H * 18446744073709551616 + L := by rw [← hdm, Nat.mul_comm]
  obtain ⟨Q, hQ⟩ : ∃ Q, P / c.natAbs = Q := ⟨_, rfl⟩
  obtain ⟨R, hR⟩ : ∃ R, P % c.natAbs = R := ⟨_, rfl⟩
  have hQb : Q < 18446744073709551616 := by rw [← hQ]; exact sc_quot hCp (by rw [hH]; omega)
  have hRC : R < c.natAbs := by rw [← hR]; exact Nat.mod_lt _ hCp
  have HD : Hid (∀ w, Calls Try.prog 23 #[.int .u64 H, .int .u64 L, .int .u64 (c.natAbs : Nat)] w fun e w' => e = .returned (.tuple #[.int .u64 Q, .int .u64 R]) ∧ Below w.heap.size w w') := Lib.hid (fun w => Div64_any H L c.natAbs w (by omega) (by omega) hLl Q R (by rw [← hPC]; exact hQ) (by rw [← hPC]; exact hR) hQb)
  have hPd : scP a b = P := hP
  have hPQ : P = 0 → Q = 0 ∧ R = 0 := fun h => by rw [← hQ, ← hR, h]; exact ⟨Nat.zero_div _, Nat.zero_mod _⟩
  have hPR : P ≠ 0 → Q = 0 → R ≠ 0 := fun h1 h2 h3 => by
    have := Nat.div_add_mod P c.natAbs
    rw [hQ, hR, h2, h3, Nat.mul_zero] at this
    omega
  unfold scN scL at h
  rw [hP, hQ, hR] at h
  obtain ⟨C, hC⟩ : ∃ C, c.natAbs = C := ⟨_, rfl⟩
  rw [hC] at h HSC HD hRC hCH hCp hCn
  obtain ⟨Hi, hHi⟩ : ∃ z : Int, (H : Int) = z := ⟨_, rfl⟩
  obtain ⟨Li, hLi⟩ : ∃ z : Int, (L : Int) = z := ⟨_, rfl⟩
  obtain ⟨Qi, hQi⟩ : ∃ z : Int, (Q : Int) = z := ⟨_, rfl⟩
  obtain ⟨Ri, hRi⟩ : ∃ z : Int, (R : Int) = z := ⟨_, rfl⟩
  obtain ⟨Ci, hCi⟩ : ∃ z : Int, (C : Int) = z := ⟨_, rfl⟩
  rw [hHi, hLi] at HM
  rw [hHi, hLi, hQi, hRi, hCi] at HD
  rw [hCi] at HSC
  have hHL : P = 0 ↔ (Hi = 0 ∧ Li = 0) := by omega
  have hCHi : Hi < Ci := by omega
  have bQ : 0 ≤ Qi ∧ Qi < 18446744073709551616 := by omega
  have bR : 0 ≤ Ri ∧ Ri < Ci := by omega
  have bC : 0 < Ci ∧ Ci ≤ 9223372036854775808 := by omega
  have bH : 0 ≤ Hi ∧ Hi ≤ 4611686018427387904 := by omega
  have bL : 0 ≤ Li ∧ Li < 18446744073709551616 := by omega
  have HH := Lib.hid h
  have EE : Hid ((Q : Int) = Qi ∧ (R : Int) = Ri ∧ (C : Int) = Ci) := Lib.hid ⟨hQi, hRi, hCi⟩
  have HPQ : Hid (P = 0 → Qi = 0 ∧ Ri = 0 ∧ Hi = 0 ∧ Li = 0) := Lib.hid (fun h => by have := hPQ h; omega)
  have HPR : Hid (P ≠ 0 → (Qi = 0 → Ri ≠ 0) ∧ (Hi = 0 → Li ≠ 0)) := Lib.hid (fun h => ⟨fun h1 => by have := hPR h (by omega); omega, fun h1 => by omega⟩)
  clear h hdm hPC hH hL hQ hR hP hPl hLl hHl hHL hPQ hPR hQi hRi hCi hHi hLi hQb hRC hCH hCp hCn hAn hBn
  have hm : (decide (a < 0) != decide (b < 0)) = true := by obtain ⟨ha0, hb0⟩ := hsg <;> simp [ha0, hb0]
  have HMM := Lib.hid hm
  clear hm
  obtain ⟨ha0, hb0⟩ := hsg
  all_goals
    by_cases hcn : c < 0
    · by_cases hPz : P = 0
      · have HBL : Hid (scB a b c = false) := Lib.hid (by unfold scB; rw [hPd, decide_eq_false (p := 0 < P) (by omega), Bool.and_false])
        obtain ⟨hQz, hRz, hHz, hLz⟩ := HPQ.out hPz
        have hHb : (Hi != 0) = false := by rw [bne_eq_false_iff_eq]; exact hHz
        have hLb : (Li != 0) = false := by rw [bne_eq_false_iff_eq]; exact hLz
        have hQb0 : (Qi != 0) = false := by simpa using hQz
        have hRb0 : (Ri != 0) = false := by simpa using hRz
        clear hQz hRz hHz hLz
        have h := HH.out
        obtain ⟨hQi, hRi, hCi⟩ := EE.out
        rw [HBL.out] at h
        simp only [Bool.false_and] at h
        by_cases hfit : 9223372036854775808 ≤ Qi
        · rw [if_pos (by first | exact .inr ⟨rfl, by simp; omega⟩ | exact .inr ⟨trivial, by simp; omega⟩)] at h
          injection h with h1 h
          injection h with h2 h3
          subst h1 h2 h3
          clear HH hQi hRi hCi
          go_enter Try.func15, Try.ntmps15
          go_wp2_with fail
          refine (HSA.out _).mono ?_
          rintro e w' ⟨rfl, rfl⟩
          go_wp2_with fail
          refine (HSB.out _).mono ?_
          rintro e w' ⟨rfl, rfl⟩
          go_wp2_with fail
          refine (HM.out _).mono ?_
          rintro e w' ⟨rfl, rfl⟩
          go_wp2_with fail
          refine (HSC.out _).mono ?_
          rintro e w' ⟨rfl, rfl⟩
          go_wp2_with fail
          refine (HD.out _).mono ?_
          rintro e w1 ⟨rfl, hb1⟩
          obtain ⟨f0, f1, f2, HB1⟩ := two_cells (L := Li) (C := Ci) (H := Hi) hb1
          clear hb1
          have f3 := wide_cells (q := Qi) (r := Ri) f0
          have f4 := wide_cells (q := Qi) (r := Ri) f1
          go_wp2_with fail
          have hcc := three_cells (w := w1) (q := Qi) (r := Ri) (bl := false) f2
          refine (round_any false Qi Ri Ci _ _ _ _ _ hcc.1 hcc.2.1 hcc.2.2.1 hcc.2.2.2 Qi Ri true (round_no)).mono ?_
          rintro e w2 ⟨rfl, hb2⟩
          have hc2 := (hb2.cell (World.block_lt_of_cell? _ _ hcc.1)).trans hcc.1
          have HB2 := Lib.hid (below_two (below_two (below_two (below_two HB1 (below_lit w1 _)) (below_lit _ _)) (below_lit _ _)) hb2)
          clear hb2 hcc
          go_wp2
          go_ret3
          refine ⟨?_, HB2.out⟩
          obtain ⟨hQi, hRi, hCi⟩ := EE.out
          first
            | (simp; done)
            | (simp; omega)
            | (simp only [IntKind.wrap_u64, wrap64]; simp; omega)
            | (simp [IntKind.wrap_u64, wrap64]; omega)
        · rw [if_neg (by intro hh; simp at hh; omega)] at h
          injection h with h1 h
          injection h with h2 h3
          subst h1 h2 h3
          clear HH hQi hRi hCi
          go_enter Try.func15, Try.ntmps15
          go_wp2_with fail
          refine (HSA.out _).mono ?_
          rintro e w' ⟨rfl, rfl⟩
          go_wp2_with fail
          refine (HSB.out _).mono ?_
          rintro e w' ⟨rfl, rfl⟩
          go_wp2_with fail
          refine (HM.out _).mono ?_
          rintro e w' ⟨rfl, rfl⟩
          go_wp2_with fail
          refine (HSC.out _).mono ?_
          rintro e w' ⟨rfl, rfl⟩
          go_wp2_with fail
          refine (HD.out _).mono ?_
          rintro e w1 ⟨rfl, hb1⟩
          obtain ⟨f0, f1, f2, HB1⟩ := two_cells (L := Li) (C := Ci) (H := Hi) hb1
          clear hb1
          have f3 := wide_cells (q := Qi) (r := Ri) f0
          have f4 := wide_cells (q := Qi) (r := Ri) f1
          go_wp2_with fail
          have hcc := three_cells (w := w1) (q := Qi) (r := Ri) (bl := false) f2
          refine (round_any false Qi Ri Ci _ _ _ _ _ hcc.1 hcc.2.1 hcc.2.2.1 hcc.2.2.2 Qi Ri true (round_no)).mono ?_
          rintro e w2 ⟨rfl, hb2⟩
          have hc2 := (hb2.cell (World.block_lt_of_cell? _ _ hcc.1)).trans hcc.1
          have HB2 := Lib.hid (below_two (below_two (below_two (below_two HB1 (below_lit w1 _)) (below_lit _ _)) (below_lit _ _)) hb2)
          clear hb2 hcc
          go_wp2
          go_ret3
          refine ⟨?_, HB2.out⟩
          obtain ⟨hQi, hRi, hCi⟩ := EE.out
          first
            | (simp; done)
            | (simp; omega)
            | (simp only [IntKind.wrap_u64, wrap64]; simp; omega)
            | (simp [IntKind.wrap_u64, wrap64]; omega)
      · have HBL : Hid (scB a b c = false) := Lib.hid (by unfold scB; rw [HMM.out, decide_eq_true hcn]; rfl)
        by_cases hHz : Hi = 0
        · have hHb : (Hi != 0) = false := by simpa using hHz
          have hLb : (Li != 0) = true := by rw [bne_iff_ne]; exact (HPR.out hPz).2 hHz
          clear hHz
          have h := HH.out
          obtain ⟨hQi, hRi, hCi⟩ := EE.out
          rw [HBL.out] at h
          simp only [Bool.false_and] at h
          by_cases hfit : 9223372036854775808 ≤ Qi
          · rw [if_pos (by first | exact .inr ⟨rfl, by simp; omega⟩ | exact .inr ⟨trivial, by simp; omega⟩)] at h
            injection h with h1 h
            injection h with h2 h3
            subst h1 h2 h3
            clear HH hQi hRi hCi
            go_enter Try.func15, Try.ntmps15
            go_wp2_with fail
            refine (HSA.out _).mono ?_
            rintro e w' ⟨rfl, rfl⟩
            go_wp2_with fail
            refine (HSB.out _).mono ?_
            rintro e w' ⟨rfl, rfl⟩
            go_wp2_with fail
            refine (HM.out _).mono ?_
            rintro e w' ⟨rfl, rfl⟩
            go_wp2_with fail
            refine (HSC.out _).mono ?_
            rintro e w' ⟨rfl, rfl⟩
            go_wp2_with fail
            refine (HD.out _).mono ?_
            rintro e w1 ⟨rfl, hb1⟩
            obtain ⟨f0, f1, f2, HB1⟩ := two_cells (L := Li) (C := Ci) (H := Hi) hb1
            clear hb1
            have f3 := wide_cells (q := Qi) (r := Ri) f0
            have f4 := wide_cells (q := Qi) (r := Ri) f1
            go_wp2_with fail
            have hcc := three_cells (w := w1) (q := Qi) (r := Ri) (bl := false) f2
            refine (round_any false Qi Ri Ci _ _ _ _ _ hcc.1 hcc.2.1 hcc.2.2.1 hcc.2.2.2 Qi Ri true (round_no)).mono ?_
            rintro e w2 ⟨rfl, hb2⟩
            have hc2 := (hb2.cell (World.block_lt_of_cell? _ _ hcc.1)).trans hcc.1
            have HB2 := Lib.hid (below_two (below_two (below_two (below_two HB1 (below_lit w1 _)) (below_lit _ _)) (below_lit _ _)) hb2)
            clear hb2 hcc
            go_wp2
            go_ret3
            refine ⟨?_, HB2.out⟩
            obtain ⟨hQi, hRi, hCi⟩ := EE.out
            first
              | (simp; done)
              | (simp; omega)
              | (simp only [IntKind.wrap_u64, wrap64]; simp; omega)
              | (simp [IntKind.wrap_u64, wrap64]; omega)
          · rw [if_neg (by intro hh; simp at hh; omega)] at h
            injection h with h1 h
            injection h with h2 h3
            subst h1 h2 h3
            clear HH hQi hRi hCi
            go_enter Try.func15, Try.ntmps15
            go_wp2_with fail
            refine (HSA.out _).mono ?_
            rintro e w' ⟨rfl, rfl⟩
            go_wp2_with fail
            refine (HSB.out _).mono ?_
            rintro e w' ⟨rfl, rfl⟩
            go_wp2_with fail
            refine (HM.out _).mono ?_
            rintro e w' ⟨rfl, rfl⟩
            go_wp2_with fail
            refine (HSC.out _).mono ?_
            rintro e w' ⟨rfl, rfl⟩
            go_wp2_with fail
            refine (HD.out _).mono ?_
            rintro e w1 ⟨rfl, hb1⟩
            obtain ⟨f0, f1, f2, HB1⟩ := two_cells (L := Li) (C := Ci) (H := Hi) hb1
            clear hb1
            have f3 := wide_cells (q := Qi) (r := Ri) f0
            have f4 := wide_cells (q := Qi) (r := Ri) f1
            go_wp2_with fail
            have hcc := three_cells (w := w1) (q := Qi) (r := Ri) (bl := false) f2
            refine (round_any false Qi Ri Ci _ _ _ _ _ hcc.1 hcc.2.1 hcc.2.2.1 hcc.2.2.2 Qi Ri true (round_no)).mono ?_
            rintro e w2 ⟨rfl, hb2⟩
            have hc2 := (hb2.cell (World.block_lt_of_cell? _ _ hcc.1)).trans hcc.1
            have HB2 := Lib.hid (below_two (below_two (below_two (below_two HB1 (below_lit w1 _)) (below_lit _ _)) (below_lit _ _)) hb2)
            clear hb2 hcc
            go_wp2
            go_ret3
            refine ⟨?_, HB2.out⟩
            obtain ⟨hQi, hRi, hCi⟩ := EE.out
            first
              | (simp; done)
              | (simp; omega)
              | (simp only [IntKind.wrap_u64, wrap64]; simp; omega)
              | (simp [IntKind.wrap_u64, wrap64]; omega)
        · have hHb : (Hi != 0) = true := by simpa using hHz
          clear hHz
          have h := HH.out
          obtain ⟨hQi, hRi, hCi⟩ := EE.out
          rw [HBL.out] at h
          simp only [Bool.false_and] at h
          by_cases hfit : 9223372036854775808 ≤ Qi
          · rw [if_pos (by first | exact .inr ⟨rfl, by simp; omega⟩ | exact .inr ⟨trivial, by simp; omega⟩)] at h
            injection h with h1 h
            injection h with h2 h3
            subst h1 h2 h3
            clear HH hQi hRi hCi
            go_enter Try.func15, Try.ntmps15
            go_wp2_with fail
            refine (HSA.out _).mono ?_
            rintro e w' ⟨rfl, rfl⟩
            go_wp2_with fail
            refine (HSB.out _).mono ?_
            rintro e w' ⟨rfl, rfl⟩
            go_wp2_with fail
            refine (HM.out _).mono ?_
            rintro e w' ⟨rfl, rfl⟩
            go_wp2_with fail
            refine (HSC.out _).mono ?_
            rintro e w' ⟨rfl, rfl⟩
            go_wp2_with fail
            refine (HD.out _).mono ?_
            rintro e w1 ⟨rfl, hb1⟩
            obtain ⟨f0, f1, f2, HB1⟩ := two_cells (L := Li) (C := Ci) (H := Hi) hb1
            clear hb1
            have f3 := wide_cells (q := Qi) (r := Ri) f0
            have f4 := wide_cells (q := Qi) (r := Ri) f1
            go_wp2_with fail
            have hcc := three_cells (w := w1) (q := Qi) (r := Ri) (bl := false) f2
            refine (round_any false Qi Ri Ci _ _ _ _ _ hcc.1 hcc.2.1 hcc.2.2.1 hcc.2.2.2 Qi Ri true (round_no)).mono ?_
            rintro e w2 ⟨rfl, hb2⟩
            have hc2 := (hb2.cell (World.block_lt_of_cell? _ _ hcc.1)).trans hcc.1
            have HB2 := Lib.hid (below_two (below_two (below_two (below_two HB1 (below_lit w1 _)) (below_lit _ _)) (below_lit _ _)) hb2)
            clear hb2 hcc
            go_wp2
            go_ret3
            refine ⟨?_, HB2.out⟩
            obtain ⟨hQi, hRi, hCi⟩ := EE.out
            first
              | (simp; done)
              | (simp; omega)
              | (simp only [IntKind.wrap_u64, wrap64]; simp; omega)
              | (simp [IntKind.wrap_u64, wrap64]; omega)
          · rw [if_neg (by intro hh; simp at hh; omega)] at h
            injection h with h1 h
            injection h with h2 h3
            subst h1 h2 h3
            clear HH hQi hRi hCi
            go_enter Try.func15, Try.ntmps15
            go_wp2_with fail
            refine (HSA.out _).mono ?_
            rintro e w' ⟨rfl, rfl⟩
            go_wp2_with fail
            refine (HSB.out _).mono ?_
            rintro e w' ⟨rfl, rfl⟩
            go_wp2_with fail
            refine (HM.out _).mono ?_
            rintro e w' ⟨rfl, rfl⟩
            go_wp2_with fail
            refine (HSC.out _).mono ?_
            rintro e w' ⟨rfl, rfl⟩
            go_wp2_with fail
            refine (HD.out _).mono ?_
            rintro e w1 ⟨rfl, hb1⟩
            obtain ⟨f0, f1, f2, HB1⟩ := two_cells (L := Li) (C := Ci) (H := Hi) hb1
            clear hb1
            have f3 := wide_cells (q := Qi) (r := Ri) f0
            have f4 := wide_cells (q := Qi) (r := Ri) f1
            go_wp2_with fail
            have hcc := three_cells (w := w1) (q := Qi) (r := Ri) (bl := false) f2
            refine (round_any false Qi Ri Ci _ _ _ _ _ hcc.1 hcc.2.1 hcc.2.2.1 hcc.2.2.2 Qi Ri true (round_no)).mono ?_
            rintro e w2 ⟨rfl, hb2⟩
            have hc2 := (hb2.cell (World.block_lt_of_cell? _ _ hcc.1)).trans hcc.1
            have HB2 := Lib.hid (below_two (below_two (below_two (below_two HB1 (below_lit w1 _)) (below_lit _ _)) (below_lit _ _)) hb2)
            clear hb2 hcc
            go_wp2
            go_ret3
            refine ⟨?_, HB2.out⟩
            obtain ⟨hQi, hRi, hCi⟩ := EE.out
            first
              | (simp; done)
              | (simp; omega)
              | (simp only [IntKind.wrap_u64, wrap64]; simp; omega)
              | (simp [IntKind.wrap_u64, wrap64]; omega)
    · by_cases hPz : P = 0
      · have HBL : Hid (scB a b c = false) := Lib.hid (by unfold scB; rw [hPd, decide_eq_false (p := 0 < P) (by omega), Bool.and_false])
        obtain ⟨hQz, hRz, hHz, hLz⟩ := HPQ.out hPz
        have hHb : (Hi != 0) = false := by rw [bne_eq_false_iff_eq]; exact hHz
        have hLb : (Li != 0) = false := by rw [bne_eq_false_iff_eq]; exact hLz
        clear hHz hLz hQz hRz
        have h := HH.out
        obtain ⟨hQi, hRi, hCi⟩ := EE.out
        rw [HBL.out] at h
        simp only [Bool.false_and] at h
        by_cases hfit : 9223372036854775808 ≤ Qi
        · rw [if_pos (by first | exact .inr ⟨rfl, by simp; omega⟩ | exact .inr ⟨trivial, by simp; omega⟩)] at h
          injection h with h1 h
          injection h with h2 h3
          subst h1 h2 h3
          clear HH hQi hRi hCi
          go_enter Try.func15, Try.ntmps15
          go_wp2_with fail
          refine (HSA.out _).mono ?_
          rintro e w' ⟨rfl, rfl⟩
          go_wp2_with fail
          refine (HSB.out _).mono ?_
          rintro e w' ⟨rfl, rfl⟩
          go_wp2_with fail
          refine (HM.out _).mono ?_
          rintro e w' ⟨rfl, rfl⟩
          go_wp2_with fail
          refine (HSC.out _).mono ?_
          rintro e w' ⟨rfl, rfl⟩
          go_wp2_with fail
          refine (HD.out _).mono ?_
          rintro e w1 ⟨rfl, hb1⟩
          obtain ⟨f0, f1, f2, HB1⟩ := two_cells (L := Li) (C := Ci) (H := Hi) hb1
          clear hb1
          have f3 := wide_cells (q := Qi) (r := Ri) f0
          have f4 := wide_cells (q := Qi) (r := Ri) f1
          go_wp2_with fail
          have hcc := three_cells (w := w1) (q := Qi) (r := Ri) (bl := false) f2
          refine (round_any false Qi Ri Ci _ _ _ _ _ hcc.1 hcc.2.1 hcc.2.2.1 hcc.2.2.2 Qi Ri true (round_no)).mono ?_
          rintro e w2 ⟨rfl, hb2⟩
          have hc2 := (hb2.cell (World.block_lt_of_cell? _ _ hcc.1)).trans hcc.1
          have HB2 := Lib.hid (below_two (below_two (below_two (below_two HB1 (below_lit w1 _)) (below_lit _ _)) (below_lit _ _)) hb2)
          clear hb2 hcc
          go_wp2
          go_ret3
          refine ⟨?_, HB2.out⟩
          obtain ⟨hQi, hRi, hCi⟩ := EE.out
          first
            | (simp; done)
            | (simp; omega)
            | (simp only [IntKind.wrap_u64, wrap64]; simp; omega)
            | (simp [IntKind.wrap_u64, wrap64]; omega)
        · rw [if_neg (by intro hh; simp at hh; omega)] at h
          injection h with h1 h
          injection h with h2 h3
          subst h1 h2 h3
          clear HH hQi hRi hCi
          go_enter Try.func15, Try.ntmps15
          go_wp2_with fail
          refine (HSA.out _).mono ?_
          rintro e w' ⟨rfl, rfl⟩
          go_wp2_with fail
          refine (HSB.out _).mono ?_
          rintro e w' ⟨rfl, rfl⟩
          go_wp2_with fail
          refine (HM.out _).mono ?_
          rintro e w' ⟨rfl, rfl⟩
          go_wp2_with fail
          refine (HSC.out _).mono ?_
          rintro e w' ⟨rfl, rfl⟩
          go_wp2_with fail
          refine (HD.out _).mono ?_
          rintro e w1 ⟨rfl, hb1⟩
          obtain ⟨f0, f1, f2, HB1⟩ := two_cells (L := Li) (C := Ci) (H := Hi) hb1
          clear hb1
          have f3 := wide_cells (q := Qi) (r := Ri) f0
          have f4 := wide_cells (q := Qi) (r := Ri) f1
          go_wp2_with fail
          have hcc := three_cells (w := w1) (q := Qi) (r := Ri) (bl := false) f2
          refine (round_any false Qi Ri Ci _ _ _ _ _ hcc.1 hcc.2.1 hcc.2.2.1 hcc.2.2.2 Qi Ri true (round_no)).mono ?_
          rintro e w2 ⟨rfl, hb2⟩
          have hc2 := (hb2.cell (World.block_lt_of_cell? _ _ hcc.1)).trans hcc.1
          have HB2 := Lib.hid (below_two (below_two (below_two (below_two HB1 (below_lit w1 _)) (below_lit _ _)) (below_lit _ _)) hb2)
          clear hb2 hcc
          go_wp2
          go_ret3
          refine ⟨?_, HB2.out⟩
          obtain ⟨hQi, hRi, hCi⟩ := EE.out
          first
            | (simp; done)
            | (simp; omega)
            | (simp only [IntKind.wrap_u64, wrap64]; simp; omega)
            | (simp [IntKind.wrap_u64, wrap64]; omega)
      · have HBL : Hid (scB a b c = true) := Lib.hid (by unfold scB; rw [hPd, HMM.out, decide_eq_false hcn, decide_eq_true (p := 0 < P) (by omega)]; rfl)
        by_cases hHz : Hi = 0
        · have hHb : (Hi != 0) = false := by simpa using hHz
          have hLb : (Li != 0) = true := by rw [bne_iff_ne]; exact (HPR.out hPz).2 hHz
          clear hHz
          by_cases hQz : Qi = 0
          · have hQb0 : (Qi != 0) = false := by simpa using hQz
            have hRn : Ri ≠ 0 := (HPR.out hPz).1 hQz
            have hRb0 : (Ri != 0) = true := by simpa using hRn
            have HRN := Lib.hid hRn
            have HPZ := Lib.hid hPz
            have HQZ := Lib.hid hQz
            clear hRn hPz hQz
            have h := HH.out
            obtain ⟨hQi, hRi, hCi⟩ := EE.out
            rw [HBL.out] at h
            simp only [Bool.true_and, decide_eq_true (show 0 < R by have := HRN.out; omega), if_pos] at h
            rw [if_neg (by intro hh; have := HQZ.out; simp at hh; omega)] at h
            injection h with h1 h
            injection h with h2 h3
            subst h1 h2 h3
            have hfit : Qi + 1 ≤ 9223372036854775808 := by have := HQZ.out; omega
            clear HH hQi hRi hCi
            go_enter Try.func15, Try.ntmps15
            go_wp2_with fail
            refine (HSA.out _).mono ?_
            rintro e w' ⟨rfl, rfl⟩
            go_wp2_with fail
            refine (HSB.out _).mono ?_
            rintro e w' ⟨rfl, rfl⟩
            go_wp2_with fail
            refine (HM.out _).mono ?_
            rintro e w' ⟨rfl, rfl⟩
            go_wp2_with fail
            refine (HSC.out _).mono ?_
            rintro e w' ⟨rfl, rfl⟩
            go_wp2_with fail
            refine (HD.out _).mono ?_
            rintro e w1 ⟨rfl, hb1⟩
            obtain ⟨f0, f1, f2, HB1⟩ := two_cells (L := Li) (C := Ci) (H := Hi) hb1
            clear hb1
            have f3 := wide_cells (q := Qi) (r := Ri) f0
            have f4 := wide_cells (q := Qi) (r := Ri) f1
            go_wp2_with fail
            have hcc := three_cells (w := w1) (q := Qi) (r := Ri) (bl := true) f2
            refine (round_any true Qi Ri Ci _ _ _ _ _ hcc.1 hcc.2.1 hcc.2.2.1 hcc.2.2.2 (Qi + 1) (Ci - Ri) true (round_up (by have := HRN.out; omega) (by omega) (by omega) (by have := HQZ.out; omega))).mono ?_
            rintro e w2 ⟨rfl, hb2⟩
            have hc2 := (hb2.cell (World.block_lt_of_cell? _ _ hcc.1)).trans hcc.1
            have HB2 := Lib.hid (below_two (below_two (below_two (below_two HB1 (below_lit w1 _)) (below_lit _ _)) (below_lit _ _)) hb2)
            clear hb2 hcc
            go_wp2
            go_ret3
            refine ⟨?_, HB2.out⟩
            obtain ⟨hQi, hRi, hCi⟩ := EE.out
            first
              | (simp; done)
              | (simp; omega)
              | (simp only [IntKind.wrap_u64, wrap64]; simp; omega)
              | (simp [IntKind.wrap_u64, wrap64]; omega)
          · have hQb0 : (Qi != 0) = true := by simpa using hQz
            have HPZ := Lib.hid hPz
            clear hPz hQz
            by_cases hRz : Ri = 0
            · have hRb0 : (Ri != 0) = false := by simpa using hRz
              have HRZ := Lib.hid hRz
              clear hRz
              have h := HH.out
              obtain ⟨hQi, hRi, hCi⟩ := EE.out
              rw [HBL.out] at h
              simp only [Bool.true_and, decide_eq_false (show ¬ 0 < R by have := HRZ.out; omega), if_pos] at h
              by_cases hfit : 9223372036854775808 < Qi
              · rw [if_pos (by first | exact .inl ⟨rfl, by simp; omega⟩ | exact .inl ⟨trivial, by simp; omega⟩)] at h
                injection h with h1 h
                injection h with h2 h3
                subst h1 h2 h3
                clear HH hQi hRi hCi
                go_enter Try.func15, Try.ntmps15
                go_wp2_with fail
                refine (HSA.out _).mono ?_
                rintro e w' ⟨rfl, rfl⟩
                go_wp2_with fail
                refine (HSB.out _).mono ?_
                rintro e w' ⟨rfl, rfl⟩
                go_wp2_with fail
                refine (HM.out _).mono ?_
                rintro e w' ⟨rfl, rfl⟩
                go_wp2_with fail
                refine (HSC.out _).mono ?_
                rintro e w' ⟨rfl, rfl⟩
                go_wp2_with fail
                refine (HD.out _).mono ?_
                rintro e w1 ⟨rfl, hb1⟩
                obtain ⟨f0, f1, f2, HB1⟩ := two_cells (L := Li) (C := Ci) (H := Hi) hb1
                clear hb1
                have f3 := wide_cells (q := Qi) (r := Ri) f0
                have f4 := wide_cells (q := Qi) (r := Ri) f1
                go_wp2_with fail
                have hcc := three_cells (w := w1) (q := Qi) (r := Ri) (bl := true) f2
                refine (round_any true Qi Ri Ci _ _ _ _ _ hcc.1 hcc.2.1 hcc.2.2.1 hcc.2.2.2 Qi Ri true (round_exact HRZ.out)).mono ?_
                rintro e w2 ⟨rfl, hb2⟩
                have hc2 := (hb2.cell (World.block_lt_of_cell? _ _ hcc.1)).trans hcc.1
                have HB2 := Lib.hid (below_two (below_two (below_two (below_two HB1 (below_lit w1 _)) (below_lit _ _)) (below_lit _ _)) hb2)
                clear hb2 hcc
                go_wp2
                go_ret3
                refine ⟨?_, HB2.out⟩
                obtain ⟨hQi, hRi, hCi⟩ := EE.out
                first
                  | (simp; done)
                  | (simp; omega)
                  | (simp only [IntKind.wrap_u64, wrap64]; simp; omega)
                  | (simp [IntKind.wrap_u64, wrap64]; omega)
              · rw [if_neg (by intro hh; simp at hh; omega)] at h
                injection h with h1 h
                injection h with h2 h3
                subst h1 h2 h3
                clear HH hQi hRi hCi
                go_enter Try.func15, Try.ntmps15
                go_wp2_with fail
                refine (HSA.out _).mono ?_
                rintro e w' ⟨rfl, rfl⟩
                go_wp2_with fail
                refine (HSB.out _).mono ?_
                rintro e w' ⟨rfl, rfl⟩
                go_wp2_with fail
                refine (HM.out _).mono ?_
                rintro e w' ⟨rfl, rfl⟩
                go_wp2_with fail
                refine (HSC.out _).mono ?_
                rintro e w' ⟨rfl, rfl⟩
                go_wp2_with fail
                refine (HD.out _).mono ?_
                rintro e w1 ⟨rfl, hb1⟩
                obtain ⟨f0, f1, f2, HB1⟩ := two_cells (L := Li) (C := Ci) (H := Hi) hb1
                clear hb1
                have f3 := wide_cells (q := Qi) (r := Ri) f0
                have f4 := wide_cells (q := Qi) (r := Ri) f1
                go_wp2_with fail
                have hcc := three_cells (w := w1) (q := Qi) (r := Ri) (bl := true) f2
                refine (round_any true Qi Ri Ci _ _ _ _ _ hcc.1 hcc.2.1 hcc.2.2.1 hcc.2.2.2 Qi Ri true (round_exact HRZ.out)).mono ?_
                rintro e w2 ⟨rfl, hb2⟩
                have hc2 := (hb2.cell (World.block_lt_of_cell? _ _ hcc.1)).trans hcc.1
                have HB2 := Lib.hid (below_two (below_two (below_two (below_two HB1 (below_lit w1 _)) (below_lit _ _)) (below_lit _ _)) hb2)
                clear hb2 hcc
                go_wp2
                go_ret3
                refine ⟨?_, HB2.out⟩
                obtain ⟨hQi, hRi, hCi⟩ := EE.out
                first
                  | (simp; done)
                  | (simp; omega)
                  | (simp only [IntKind.wrap_u64, wrap64]; simp; omega)
                  | (simp [IntKind.wrap_u64, wrap64]; omega)
            · have hRb0 : (Ri != 0) = true := by simpa using hRz
              have HRN := Lib.hid hRz
              clear hRz
              have h := HH.out
              obtain ⟨hQi, hRi, hCi⟩ := EE.out
              rw [HBL.out] at h
              simp only [Bool.true_and, decide_eq_true (show 0 < R by have := HRN.out; omega), if_pos] at h
              by_cases hmax : Qi = 18446744073709551615
              · have hmaxb : (Qi != 18446744073709551615) = false := by simpa using hmax
                have HMAX := Lib.hid hmax
                rw [if_pos (by first | exact .inl ⟨rfl, by omega⟩ | exact .inl ⟨trivial, by omega⟩)] at h
                injection h with h1 h
                injection h with h2 h3
                subst h1 h2 h3
                clear HH hQi hRi hCi hmax
                go_enter Try.func15, Try.ntmps15
                go_wp2_with fail
                refine (HSA.out _).mono ?_
                rintro e w' ⟨rfl, rfl⟩
                go_wp2_with fail
                refine (HSB.out _).mono ?_
                rintro e w' ⟨rfl, rfl⟩
                go_wp2_with fail
                refine (HM.out _).mono ?_
                rintro e w' ⟨rfl, rfl⟩
                go_wp2_with fail
                refine (HSC.out _).mono ?_
                rintro e w' ⟨rfl, rfl⟩
                go_wp2_with fail
                refine (HD.out _).mono ?_
                rintro e w1 ⟨rfl, hb1⟩
                obtain ⟨f0, f1, f2, HB1⟩ := two_cells (L := Li) (C := Ci) (H := Hi) hb1
                clear hb1
                have f3 := wide_cells (q := Qi) (r := Ri) f0
                have f4 := wide_cells (q := Qi) (r := Ri) f1
                go_wp2_with fail
                have hcc := three_cells (w := w1) (q := Qi) (r := Ri) (bl := true) f2
                refine (round_any true Qi Ri Ci _ _ _ _ _ hcc.1 hcc.2.1 hcc.2.2.1 hcc.2.2.2 0 (Ci - Ri) false (round_max (by have := HRN.out; omega) (by omega) (by omega) HMAX.out)).mono ?_
                rintro e w2 ⟨rfl, hb2⟩
                have hc2 := (hb2.cell (World.block_lt_of_cell? _ _ hcc.1)).trans hcc.1
                have HB2 := Lib.hid (below_two (below_two (below_two (below_two HB1 (below_lit w1 _)) (below_lit _ _)) (below_lit _ _)) hb2)
                clear hb2 hcc
                go_wp2
                go_ret3
                refine ⟨?_, HB2.out⟩
                obtain ⟨hQi, hRi, hCi⟩ := EE.out
                first
                  | (simp; done)
                  | (simp; omega)
                  | (simp only [IntKind.wrap_u64, wrap64]; simp; omega)
                  | (simp [IntKind.wrap_u64, wrap64]; omega)
              · have hmaxb : (Qi != 18446744073709551615) = true := by simpa using hmax
                have HMAX := Lib.hid hmax
                by_cases hfit : 9223372036854775808 < Qi + 1
                · rw [if_pos (by first | exact .inl ⟨rfl, by omega⟩ | exact .inl ⟨trivial, by omega⟩)] at h
                  injection h with h1 h
                  injection h with h2 h3
                  subst h1 h2 h3
                  clear HH hQi hRi hCi hmax
                  go_enter Try.func15, Try.ntmps15
                  go_wp2_with fail
                  refine (HSA.out _).mono ?_
                  rintro e w' ⟨rfl, rfl⟩
                  go_wp2_with fail
                  refine (HSB.out _).mono ?_
                  rintro e w' ⟨rfl, rfl⟩
                  go_wp2_with fail
                  refine (HM.out _).mono ?_
                  rintro e w' ⟨rfl, rfl⟩
                  go_wp2_with fail
                  refine (HSC.out _).mono ?_
                  rintro e w' ⟨rfl, rfl⟩
                  go_wp2_with fail
                  refine (HD.out _).mono ?_
                  rintro e w1 ⟨rfl, hb1⟩
                  obtain ⟨f0, f1, f2, HB1⟩ := two_cells (L := Li) (C := Ci) (H := Hi) hb1
                  clear hb1
                  have f3 := wide_cells (q := Qi) (r := Ri) f0
                  have f4 := wide_cells (q := Qi) (r := Ri) f1
                  go_wp2_with fail
                  have hcc := three_cells (w := w1) (q := Qi) (r := Ri) (bl := true) f2
                  refine (round_any true Qi Ri Ci _ _ _ _ _ hcc.1 hcc.2.1 hcc.2.2.1 hcc.2.2.2 (Qi + 1) (Ci - Ri) true (round_up (by have := HRN.out; omega) (by omega) (by omega) (by have := HMAX.out; omega))).mono ?_
                  rintro e w2 ⟨rfl, hb2⟩
                  have hc2 := (hb2.cell (World.block_lt_of_cell? _ _ hcc.1)).trans hcc.1
                  have HB2 := Lib.hid (below_two (below_two (below_two (below_two HB1 (below_lit w1 _)) (below_lit _ _)) (below_lit _ _)) hb2)
                  clear hb2 hcc
                  go_wp2
                  go_ret3
                  refine ⟨?_, HB2.out⟩
                  obtain ⟨hQi, hRi, hCi⟩ := EE.out
                  first
                    | (simp; done)
                    | (simp; omega)
                    | (simp only [IntKind.wrap_u64, wrap64]; simp; omega)
                    | (simp [IntKind.wrap_u64, wrap64]; omega)
                · rw [if_neg (by intro hh; simp at hh; omega)] at h
                  injection h with h1 h
                  injection h with h2 h3
                  subst h1 h2 h3
                  clear HH hQi hRi hCi hmax
                  go_enter Try.func15, Try.ntmps15
                  go_wp2_with fail
                  refine (HSA.out _).mono ?_
                  rintro e w' ⟨rfl, rfl⟩
                  go_wp2_with fail
                  refine (HSB.out _).mono ?_
                  rintro e w' ⟨rfl, rfl⟩
                  go_wp2_with fail
                  refine (HM.out _).mono ?_
                  rintro e w' ⟨rfl, rfl⟩
                  go_wp2_with fail
                  refine (HSC.out _).mono ?_
                  rintro e w' ⟨rfl, rfl⟩
                  go_wp2_with fail
                  refine (HD.out _).mono ?_
                  rintro e w1 ⟨rfl, hb1⟩
                  obtain ⟨f0, f1, f2, HB1⟩ := two_cells (L := Li) (C := Ci) (H := Hi) hb1
                  clear hb1
                  have f3 := wide_cells (q := Qi) (r := Ri) f0
                  have f4 := wide_cells (q := Qi) (r := Ri) f1
                  go_wp2_with fail
                  have hcc := three_cells (w := w1) (q := Qi) (r := Ri) (bl := true) f2
                  refine (round_any true Qi Ri Ci _ _ _ _ _ hcc.1 hcc.2.1 hcc.2.2.1 hcc.2.2.2 (Qi + 1) (Ci - Ri) true (round_up (by have := HRN.out; omega) (by omega) (by omega) (by have := HMAX.out; omega))).mono ?_
                  rintro e w2 ⟨rfl, hb2⟩
                  have hc2 := (hb2.cell (World.block_lt_of_cell? _ _ hcc.1)).trans hcc.1
                  have HB2 := Lib.hid (below_two (below_two (below_two (below_two HB1 (below_lit w1 _)) (below_lit _ _)) (below_lit _ _)) hb2)
                  clear hb2 hcc
                  go_wp2
                  go_ret3
                  refine ⟨?_, HB2.out⟩
                  obtain ⟨hQi, hRi, hCi⟩ := EE.out
                  first
                    | (simp; done)
                    | (simp; omega)
                    | (simp only [IntKind.wrap_u64, wrap64]; simp; omega)
                    | (simp [IntKind.wrap_u64, wrap64]; omega)
        · have hHb : (Hi != 0) = true := by simpa using hHz
          clear hHz
          by_cases hQz : Qi = 0
          · have hQb0 : (Qi != 0) = false := by simpa using hQz
            have hRn : Ri ≠ 0 := (HPR.out hPz).1 hQz
            have hRb0 : (Ri != 0) = true := by simpa using hRn
            have HRN := Lib.hid hRn
            have HPZ := Lib.hid hPz
            have HQZ := Lib.hid hQz
            clear hRn hPz hQz
            have h := HH.out
            obtain ⟨hQi, hRi, hCi⟩ := EE.out
            rw [HBL.out] at h
            simp only [Bool.true_and, decide_eq_true (show 0 < R by have := HRN.out; omega), if_pos] at h
            rw [if_neg (by intro hh; have := HQZ.out; simp at hh; omega)] at h
            injection h with h1 h
            injection h with h2 h3
            subst h1 h2 h3
            have hfit : Qi + 1 ≤ 9223372036854775808 := by have := HQZ.out; omega
            clear HH hQi hRi hCi
            go_enter Try.func15, Try.ntmps15
            go_wp2_with fail
            refine (HSA.out _).mono ?_
            rintro e w' ⟨rfl, rfl⟩
            go_wp2_with fail
            refine (HSB.out _).mono ?_
            rintro e w' ⟨rfl, rfl⟩
            go_wp2_with fail
            refine (HM.out _).mono ?_
            rintro e w' ⟨rfl, rfl⟩
            go_wp2_with fail
            refine (HSC.out _).mono ?_
            rintro e w' ⟨rfl, rfl⟩
            go_wp2_with fail
            refine (HD.out _).mono ?_
            rintro e w1 ⟨rfl, hb1⟩
            obtain ⟨f0, f1, f2, HB1⟩ := two_cells (L := Li) (C := Ci) (H := Hi) hb1
            clear hb1
            have f3 := wide_cells (q := Qi) (r := Ri) f0
            have f4 := wide_cells (q := Qi) (r := Ri) f1
            go_wp2_with fail
            have hcc := three_cells (w := w1) (q := Qi) (r := Ri) (bl := true) f2
            refine (round_any true Qi Ri Ci _ _ _ _ _ hcc.1 hcc.2.1 hcc.2.2.1 hcc.2.2.2 (Qi + 1) (Ci - Ri) true (round_up (by have := HRN.out; omega) (by omega) (by omega) (by have := HQZ.out; omega))).mono ?_
            rintro e w2 ⟨rfl, hb2⟩
            have hc2 := (hb2.cell (World.block_lt_of_cell? _ _ hcc.1)).trans hcc.1
            have HB2 := Lib.hid (below_two (below_two (below_two (below_two HB1 (below_lit w1 _)) (below_lit _ _)) (below_lit _ _)) hb2)
            clear hb2 hcc
            go_wp2
            go_ret3
            refine ⟨?_, HB2.out⟩
            obtain ⟨hQi, hRi, hCi⟩ := EE.out
            first
              | (simp; done)
              | (simp; omega)
              | (simp only [IntKind.wrap_u64, wrap64]; simp; omega)
              | (simp [IntKind.wrap_u64, wrap64]; omega)
          · have hQb0 : (Qi != 0) = true := by simpa using hQz
            have HPZ := Lib.hid hPz
            clear hPz hQz
            by_cases hRz : Ri = 0
            · have hRb0 : (Ri != 0) = false := by simpa using hRz
              have HRZ := Lib.hid hRz
              clear hRz
              have h := HH.out
              obtain ⟨hQi, hRi, hCi⟩ := EE.out
              rw [HBL.out] at h
              simp only [Bool.true_and, decide_eq_false (show ¬ 0 < R by have := HRZ.out; omega), if_pos] at h
              by_cases hfit : 9223372036854775808 < Qi
              · rw [if_pos (by first | exact .inl ⟨rfl, by simp; omega⟩ | exact .inl ⟨trivial, by simp; omega⟩)] at h
                injection h with h1 h
                injection h with h2 h3
                subst h1 h2 h3
                clear HH hQi hRi hCi
                go_enter Try.func15, Try.ntmps15
                go_wp2_with fail
                refine (HSA.out _).mono ?_
                rintro e w' ⟨rfl, rfl⟩
                go_wp2_with fail
                refine (HSB.out _).mono ?_
                rintro e w' ⟨rfl, rfl⟩
                go_wp2_with fail
                refine (HM.out _).mono ?_
                rintro e w' ⟨rfl, rfl⟩
                go_wp2_with fail
                refine (HSC.out _).mono ?_
                rintro e w' ⟨rfl, rfl⟩
                go_wp2_with fail
                refine (HD.out _).mono ?_
                rintro e w1 ⟨rfl, hb1⟩
                obtain ⟨f0, f1, f2, HB1⟩ := two_cells (L := Li) (C := Ci) (H := Hi) hb1
                clear hb1
                have f3 := wide_cells (q := Qi) (r := Ri) f0
                have f4 := wide_cells (q := Qi) (r := Ri) f1
                go_wp2_with fail
                have hcc := three_cells (w := w1) (q := Qi) (r := Ri) (bl := true) f2
                refine (round_any true Qi Ri Ci _ _ _ _ _ hcc.1 hcc.2.1 hcc.2.2.1 hcc.2.2.2 Qi Ri true (round_exact HRZ.out)).mono ?_
                rintro e w2 ⟨rfl, hb2⟩
                have hc2 := (hb2.cell (World.block_lt_of_cell? _ _ hcc.1)).trans hcc.1
                have HB2 := Lib.hid (below_two (below_two (below_two (below_two HB1 (below_lit w1 _)) (below_lit _ _)) (below_lit _ _)) hb2)
                clear hb2 hcc
                go_wp2
                go_ret3
                refine ⟨?_, HB2.out⟩
                obtain ⟨hQi, hRi, hCi⟩ := EE.out
                first
                  | (simp; done)
                  | (simp; omega)
                  | (simp only [IntKind.wrap_u64, wrap64]; simp; omega)
                  | (simp [IntKind.wrap_u64, wrap64]; omega)
              · rw [if_neg (by intro hh; simp at hh; omega)] at h
                injection h with h1 h
                injection h with h2 h3
                subst h1 h2 h3
                clear HH hQi hRi hCi
                go_enter Try.func15, Try.ntmps15
                go_wp2_with fail
                refine (HSA.out _).mono ?_
                rintro e w' ⟨rfl, rfl⟩
                go_wp2_with fail
                refine (HSB.out _).mono ?_
                rintro e w' ⟨rfl, rfl⟩
                go_wp2_with fail
                refine (HM.out _).mono ?_
                rintro e w' ⟨rfl, rfl⟩
                go_wp2_with fail
                refine (HSC.out _).mono ?_
                rintro e w' ⟨rfl, rfl⟩
                go_wp2_with fail
                refine (HD.out _).mono ?_
                rintro e w1 ⟨rfl, hb1⟩
                obtain ⟨f0, f1, f2, HB1⟩ := two_cells (L := Li) (C := Ci) (H := Hi) hb1
                clear hb1
                have f3 := wide_cells (q := Qi) (r := Ri) f0
                have f4 := wide_cells (q := Qi) (r := Ri) f1
                go_wp2_with fail
                have hcc := three_cells (w := w1) (q := Qi) (r := Ri) (bl := true) f2
                refine (round_any true Qi Ri Ci _ _ _ _ _ hcc.1 hcc.2.1 hcc.2.2.1 hcc.2.2.2 Qi Ri true (round_exact HRZ.out)).mono ?_
                rintro e w2 ⟨rfl, hb2⟩
                have hc2 := (hb2.cell (World.block_lt_of_cell? _ _ hcc.1)).trans hcc.1
                have HB2 := Lib.hid (below_two (below_two (below_two (below_two HB1 (below_lit w1 _)) (below_lit _ _)) (below_lit _ _)) hb2)
                clear hb2 hcc
                go_wp2
                go_ret3
                refine ⟨?_, HB2.out⟩
                obtain ⟨hQi, hRi, hCi⟩ := EE.out
                first
                  | (simp; done)
                  | (simp; omega)
                  | (simp only [IntKind.wrap_u64, wrap64]; simp; omega)
                  | (simp [IntKind.wrap_u64, wrap64]; omega)
            · have hRb0 : (Ri != 0) = true := by simpa using hRz
              have HRN := Lib.hid hRz
              clear hRz
              have h := HH.out
              obtain ⟨hQi, hRi, hCi⟩ := EE.out
              rw [HBL.out] at h
              simp only [Bool.true_and, decide_eq_true (show 0 < R by have := HRN.out; omega), if_pos] at h
              by_cases hmax : Qi = 18446744073709551615
              · have hmaxb : (Qi != 18446744073709551615) = false := by simpa using hmax
                have HMAX := Lib.hid hmax
                rw [if_pos (by first | exact .inl ⟨rfl, by omega⟩ | exact .inl ⟨trivial, by omega⟩)] at h
                injection h with h1 h
                injection h with h2 h3
                subst h1 h2 h3
                clear HH hQi hRi hCi hmax
                go_enter Try.func15, Try.ntmps15
                go_wp2_with fail
                refine (HSA.out _).mono ?_
                rintro e w' ⟨rfl, rfl⟩
                go_wp2_with fail
                refine (HSB.out _).mono ?_
                rintro e w' ⟨rfl, rfl⟩
                go_wp2_with fail
                refine (HM.out _).mono ?_
                rintro e w' ⟨rfl, rfl⟩
                go_wp2_with fail
                refine (HSC.out _).mono ?_
                rintro e w' ⟨rfl, rfl⟩
                go_wp2_with fail
                refine (HD.out _).mono ?_
                rintro e w1 ⟨rfl, hb1⟩
                obtain ⟨f0, f1, f2, HB1⟩ := two_cells (L := Li) (C := Ci) (H := Hi) hb1
                clear hb1
                have f3 := wide_cells (q := Qi) (r := Ri) f0
                have f4 := wide_cells (q := Qi) (r := Ri) f1
                go_wp2_with fail
                have hcc := three_cells (w := w1) (q := Qi) (r := Ri) (bl := true) f2
                refine (round_any true Qi Ri Ci _ _ _ _ _ hcc.1 hcc.2.1 hcc.2.2.1 hcc.2.2.2 0 (Ci - Ri) false (round_max (by have := HRN.out; omega) (by omega) (by omega) HMAX.out)).mono ?_
                rintro e w2 ⟨rfl, hb2⟩
                have hc2 := (hb2.cell (World.block_lt_of_cell? _ _ hcc.1)).trans hcc.1
                have HB2 := Lib.hid (below_two (below_two (below_two (below_two HB1 (below_lit w1 _)) (below_lit _ _)) (below_lit _ _)) hb2)
                clear hb2 hcc
                go_wp2
                go_ret3
                refine ⟨?_, HB2.out⟩
                obtain ⟨hQi, hRi, hCi⟩ := EE.out
                first
                  | (simp; done)
                  | (simp; omega)
                  | (simp only [IntKind.wrap_u64, wrap64]; simp; omega)
                  | (simp [IntKind.wrap_u64, wrap64]; omega)
              · have hmaxb : (Qi != 18446744073709551615) = true := by simpa using hmax
                have HMAX := Lib.hid hmax
                by_cases hfit : 9223372036854775808 < Qi + 1
                · rw [if_pos (by first | exact .inl ⟨rfl, by omega⟩ | exact .inl ⟨trivial, by omega⟩)] at h
                  injection h with h1 h
                  injection h with h2 h3
                  subst h1 h2 h3
                  clear HH hQi hRi hCi hmax
                  go_enter Try.func15, Try.ntmps15
                  go_wp2_with fail
                  refine (HSA.out _).mono ?_
                  rintro e w' ⟨rfl, rfl⟩
                  go_wp2_with fail
                  refine (HSB.out _).mono ?_
                  rintro e w' ⟨rfl, rfl⟩
                  go_wp2_with fail
                  refine (HM.out _).mono ?_
                  rintro e w' ⟨rfl, rfl⟩
                  go_wp2_with fail
                  refine (HSC.out _).mono ?_
                  rintro e w' ⟨rfl, rfl⟩
                  go_wp2_with fail
                  refine (HD.out _).mono ?_
                  rintro e w1 ⟨rfl, hb1⟩
                  obtain ⟨f0, f1, f2, HB1⟩ := two_cells (L := Li) (C := Ci) (H := Hi) hb1
                  clear hb1
                  have f3 := wide_cells (q := Qi) (r := Ri) f0
                  have f4 := wide_cells (q := Qi) (r := Ri) f1
                  go_wp2_with fail
                  have hcc := three_cells (w := w1) (q := Qi) (r := Ri) (bl := true) f2
                  refine (round_any true Qi Ri Ci _ _ _ _ _ hcc.1 hcc.2.1 hcc.2.2.1 hcc.2.2.2 (Qi + 1) (Ci - Ri) true (round_up (by have := HRN.out; omega) (by omega) (by omega) (by have := HMAX.out; omega))).mono ?_
                  rintro e w2 ⟨rfl, hb2⟩
                  have hc2 := (hb2.cell (World.block_lt_of_cell? _ _ hcc.1)).trans hcc.1
                  have HB2 := Lib.hid (below_two (below_two (below_two (below_two HB1 (below_lit w1 _)) (below_lit _ _)) (below_lit _ _)) hb2)
                  clear hb2 hcc
                  go_wp2
                  go_ret3
                  refine ⟨?_, HB2.out⟩
                  obtain ⟨hQi, hRi, hCi⟩ := EE.out
                  first
                    | (simp; done)
                    | (simp; omega)
                    | (simp only [IntKind.wrap_u64, wrap64]; simp; omega)
                    | (simp [IntKind.wrap_u64, wrap64]; omega)
                · rw [if_neg (by intro hh; simp at hh; omega)] at h
                  injection h with h1 h
                  injection h with h2 h3
                  subst h1 h2 h3
                  clear HH hQi hRi hCi hmax
                  go_enter Try.func15, Try.ntmps15
                  go_wp2_with fail
                  refine (HSA.out _).mono ?_
                  rintro e w' ⟨rfl, rfl⟩
                  go_wp2_with fail
                  refine (HSB.out _).mono ?_
                  rintro e w' ⟨rfl, rfl⟩
                  go_wp2_with fail
                  refine (HM.out _).mono ?_
                  rintro e w' ⟨rfl, rfl⟩
                  go_wp2_with fail
                  refine (HSC.out _).mono ?_
                  rintro e w' ⟨rfl, rfl⟩
                  go_wp2_with fail
                  refine (HD.out _).mono ?_
                  rintro e w1 ⟨rfl, hb1⟩
                  obtain ⟨f0, f1, f2, HB1⟩ := two_cells (L := Li) (C := Ci) (H := Hi) hb1
                  clear hb1
                  have f3 := wide_cells (q := Qi) (r := Ri) f0
                  have f4 := wide_cells (q := Qi) (r := Ri) f1
                  go_wp2_with fail
                  have hcc := three_cells (w := w1) (q := Qi) (r := Ri) (bl := true) f2
                  refine (round_any true Qi Ri Ci _ _ _ _ _ hcc.1 hcc.2.1 hcc.2.2.1 hcc.2.2.2 (Qi + 1) (Ci - Ri) true (round_up (by have := HRN.out; omega) (by omega) (by omega) (by have := HMAX.out; omega))).mono ?_
                  rintro e w2 ⟨rfl, hb2⟩
                  have hc2 := (hb2.cell (World.block_lt_of_cell? _ _ hcc.1)).trans hcc.1
                  have HB2 := Lib.hid (below_two (below_two (below_two (below_two HB1 (below_lit w1 _)) (below_lit _ _)) (below_lit _ _)) hb2)
                  clear hb2 hcc
                  go_wp2
                  go_ret3
                  refine ⟨?_, HB2.out⟩
                  obtain ⟨hQi, hRi, hCi⟩ := EE.out
                  first
                    | (simp; done)
                    | (simp; omega)
                    | (simp only [IntKind.wrap_u64, wrap64]; simp; omega)
                    | (simp [IntKind.wrap_u64, wrap64]; omega)
end Go.Proofs.Ytdgocbbndkbdbaa
