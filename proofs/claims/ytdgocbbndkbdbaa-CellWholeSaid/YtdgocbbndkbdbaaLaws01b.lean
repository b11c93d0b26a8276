/- The walks of CellScales and CellWhole. -/
import Derived.Test.YtdgocbbndkbdbaaLaws01
import Derived.Test.YtdgocbbndkbdbaaScale01F
import Derived.Test.YtdgocbbndkbdbaaScale01T
import Derived.Test.YtdgocbbndkbdbaaScale01U
import Derived.Test.YtdgocbbndkbdbaaRScale01F
import Derived.Test.YtdgocbbndkbdbaaRScale01T
namespace Go.Proofs.Ytdgocbbndkbdbaa
open Go.RowKit

theorem range_i32 {n : Int} (h : (Lit.int .i32 n).wf = true) : -2147483648 ≤ n ∧ n ≤ 2147483647 := by
  have h1 : IntKind.i32.min ≤ n ∧ n ≤ IntKind.i32.max := by simpa [Lit.wf] using h
  have h2 : IntKind.i32.min = -2147483648 := by decide
  have h3 : IntKind.i32.max = 2147483647 := by decide
  omega
theorem Scale_any (a b c : Int) (w : World) (ha : -9223372036854775808 ≤ a ∧ a ≤ 9223372036854775807) (hb : -9223372036854775808 ≤ b ∧ b ≤ 9223372036854775807) (hc : -9223372036854775808 ≤ c ∧ c ≤ 9223372036854775807) (x y : Int) (ok : Bool) (h : scaleC a b c = (x, y, ok)) :
    Calls Try.prog 15 #[.int .i64 a, .int .i64 b, .int .i64 c] w fun e w' => e = .returned (.tuple #[.int .i64 x, .int .i64 y, .bool ok]) ∧ Below w.heap.size w w' := by
  by_cases h1 : a < 0
  · by_cases h2 : b < 0
    · exact Scale_F a b c w (.inl ⟨h1, h2⟩) ha hb hc x y ok h
    · exact Scale_T a b c w ⟨h1, h2⟩ ha hb hc x y ok h
  · by_cases h2 : b < 0
    · exact Scale_U a b c w ⟨h1, h2⟩ ha hb hc x y ok h
    · exact Scale_F a b c w (.inr ⟨h1, h2⟩) ha hb hc x y ok h
theorem RScale_any (a b c : Int) (w : World) (ha : -9223372036854775808 ≤ a ∧ a ≤ 9223372036854775807) (hb : -9223372036854775808 ≤ b ∧ b ≤ 9223372036854775807) (hc : -9223372036854775808 ≤ c ∧ c ≤ 9223372036854775807) (x y : Int) (ok : Bool) (h : scaleC a b c = (x, y, ok)) :
    Calls Try.prog 16 #[.int .i64 a, .int .i64 b, .int .i64 c] w fun e w' => e = .returned (.tuple #[.int .i64 x, .int .i64 y, .bool ok]) ∧ w = w' := by
  by_cases h1 : a < 0 <;> by_cases h2 : b < 0 <;> by_cases h3 : c < 0
  all_goals first
    | exact RScale_T a b c w (by omega) ha hb hc x y ok h
    | exact RScale_F a b c w (by omega) ha hb hc x y ok h

set_option maxHeartbeats 1000000 in
theorem CellScales_walk (a b c : Int) (w : World) (ha : -9223372036854775808 ≤ a ∧ a ≤ 9223372036854775807) (hb : -9223372036854775808 ≤ b ∧ b ≤ 9223372036854775807) (hc : -9223372036854775808 ≤ c ∧ c ≤ 9223372036854775807) :
    Calls Try.prog 5 #[.int .i64 a, .int .i64 b, .int .i64 c] w fun e w' => e = .returned (.bool true) ∧ Below w.heap.size w w' := by
  obtain ⟨q, r, ok, hd⟩ : ∃ q r ok, scaleC a b c = (q, r, ok) := ⟨_, _, _, rfl⟩
  have HD : Hid (∀ w, Calls Try.prog 15 #[.int .i64 a, .int .i64 b, .int .i64 c] w fun e w' => e = .returned (.tuple #[.int .i64 q, .int .i64 r, .bool ok]) ∧ Below w.heap.size w w') := Lib.hid (fun w => Scale_any a b c w ha hb hc q r ok hd)
  have HR : Hid (∀ w, Calls Try.prog 16 #[.int .i64 a, .int .i64 b, .int .i64 c] w fun e w' => e = .returned (.tuple #[.int .i64 q, .int .i64 r, .bool ok]) ∧ w = w') := Lib.hid (fun w => RScale_any a b c w ha hb hc q r ok hd)
  clear hd
  cases ok
  all_goals
    go_enter Try.func5, Try.ntmps5
    go_wp2_with fail
    refine (awake_any w).mono ?_
    rintro e w1 ⟨rfl, hb⟩
    have HB := Lib.hid hb
    clear hb
    go_wp2_with fail
    refine (HD.out _).mono ?_
    rintro e w2 ⟨rfl, hb⟩
    have HB := Lib.hid (below_two HB.out hb)
    clear hb
    go_wp2_with fail
    refine (HR.out _).mono ?_
    rintro e w3 ⟨rfl, rfl⟩
    go_wp2
    all_goals go_ret
    all_goals (refine ⟨?_, HB.out⟩; simp)

theorem scale_fin {B : Bool} {N L : Nat} {c q r : Int} (h1 : B = true → N ≤ 9223372036854775808 ∧ -(N : Int) = q) (h2 : B = false → N < 9223372036854775808 ∧ (N : Int) = q) (h3 : c < 0 → -(L : Int) = r) (h4 : ¬ c < 0 → (L : Int) = r) :
    (if (B = true ∧ 9223372036854775808 < N) ∨ (B = false ∧ 9223372036854775808 ≤ N) then ((0, 0, false) : Int × Int × Bool) else (if B then -(N : Int) else N, if c < 0 then -(L : Int) else L, true)) = (q, r, true) := by
  have hn : ¬ ((B = true ∧ 9223372036854775808 < N) ∨ (B = false ∧ 9223372036854775808 ≤ N)) := by
    rintro (⟨a1, a2⟩ | ⟨a1, a2⟩)
    · have := (h1 a1).1
      omega
    · have := (h2 a1).1
      omega
  rw [if_neg hn]
  have e1 : (if B then -(N : Int) else N) = q := by
    cases B with
    | true => exact (h1 rfl).2
    | false => exact (h2 rfl).2
  have e2 : (if c < 0 then -(L : Int) else L) = r := by
    by_cases h : c < 0
    · rw [if_pos h]; exact h3 h
    · rw [if_neg h]; exact h4 h
  rw [e1, e2]
theorem scaleC_swap (a b c : Int) : scaleC b a c = scaleC a b c := by
  have h1 : scP b a = scP a b := Nat.mul_comm _ _
  have h2 : scB b a c = scB a b c := by
    unfold scB
    rw [h1]
    congr 2
    cases decide (a < 0) <;> cases decide (b < 0) <;> rfl
  unfold scaleC scN scL
  rw [h1, h2]
theorem scaleC_back {a c : Int} (ha : -9223372036854775808 ≤ a ∧ a ≤ 9223372036854775807) (hc : c ≠ 0) : scaleC a c c = (a, 0, true) := by
  have hC : 0 < c.natAbs := by omega
  have hP : scP a c = a.natAbs * c.natAbs := rfl
  have hq : scP a c / c.natAbs = a.natAbs := by rw [hP]; exact Nat.mul_div_cancel _ hC
  have hr : scP a c % c.natAbs = 0 := by rw [hP]; exact Nat.mul_mod_left _ _
  have hA : a.natAbs ≤ 9223372036854775808 := by omega
  have hh : ¬ (c = 0 ∨ c.natAbs ≤ scP a c / 18446744073709551616) := by
    rintro (h | h)
    · exact hc h
    · rw [Nat.le_div_iff_mul_le (by decide), hP, Nat.mul_comm] at h
      have := Nat.le_of_mul_le_mul_right h hC
      omega
  have hB : scB a c c = decide (a < 0) := by
    unfold scB
    rw [hP]
    by_cases h0 : a = 0
    · subst h0
      simp
    · have : 0 < a.natAbs * c.natAbs := Nat.mul_pos (by omega) hC
      rw [decide_eq_true this]
      cases decide (a < 0) <;> cases decide (c < 0) <;> rfl
  have hN : scN a c c = a.natAbs := by
    unfold scN
    rw [hq, hr]
    simp
  have hL : scL a c c = 0 := by
    unfold scL
    rw [hr]
    simp
  unfold scaleC
  rw [if_neg hh, hB, hN, hL]
  exact scale_fin (fun h => ⟨hA, by have := of_decide_eq_true h; omega⟩) (fun h => ⟨by have := of_decide_eq_false h; omega, by have := of_decide_eq_false h; omega⟩) (fun _ => rfl) (fun _ => rfl)
theorem scaleC_div {s n c : Int} (hp : -4611686018427387904 ≤ s * n ∧ s * n ≤ 4611686018427387904) (hc : -9223372036854775808 ≤ c ∧ c ≤ 9223372036854775807) : scaleC s n c = divC (s * n) c := by
  have hP : scP s n = (s * n).natAbs := (Int.natAbs_mul s n).symm
  by_cases h0 : c = 0
  · unfold scaleC divC
    rw [if_pos (.inl h0), if_pos h0]
  have hlt : 0 < scP s n → (decide (s < 0) != decide (n < 0)) = decide (s * n < 0) := by
    intro h
    have h1 : s ≠ 0 := by rintro rfl; unfold scP at h; simp at h
    have h2 : n ≠ 0 := by rintro rfl; unfold scP at h; simp at h
    rcases Int.lt_or_lt_of_ne h1 with h3 | h3 <;> rcases Int.lt_or_lt_of_ne h2 with h4 | h4
    · have := Int.mul_pos_of_neg_of_neg h3 h4
      rw [decide_eq_true h3, decide_eq_true h4, decide_eq_false (by omega)]
      rfl
    · have := Int.mul_neg_of_neg_of_pos h3 h4
      rw [decide_eq_true h3, decide_eq_false (show ¬ n < 0 by omega), decide_eq_true this]
      rfl
    · have := Int.mul_neg_of_pos_of_neg h3 h4
      rw [decide_eq_false (show ¬ s < 0 by omega), decide_eq_true h4, decide_eq_true this]
      rfl
    · have := Int.mul_pos h3 h4
      rw [decide_eq_false (show ¬ s < 0 by omega), decide_eq_false (show ¬ n < 0 by omega), decide_eq_false (by omega)]
      rfl
  have hB : scB s n c = ((decide (s * n < 0) != decide (c < 0)) && decide (0 < scP s n)) := by
    unfold scB
    by_cases h : 0 < scP s n
    · rw [hlt h]
    · rw [decide_eq_false h, Bool.and_false, Bool.and_false]
  generalize s * n = p at *
  have hD : divC p c = (p.fdiv c, p.fmod c, true) := by
    unfold divC
    rw [if_neg h0]
    by_cases h1 : c = -1
    · rw [if_pos h1]
      subst h1
      have := fdiv_keep (a := p) (b := -1) (q := -p) (r := 0) (by omega) (by omega)
      rw [this.1, this.2]
      congr 1
      unfold wrap64
      omega
    · rw [if_neg h1]
  rw [hD]
  obtain ⟨P, hPe⟩ : ∃ P, scP s n = P := ⟨_, rfl⟩
  obtain ⟨C, hCe⟩ : ∃ C, c.natAbs = C := ⟨_, rfl⟩
  obtain ⟨Q, hQ⟩ : ∃ Q, P / C = Q := ⟨_, rfl⟩
  obtain ⟨R, hR⟩ : ∃ R, P % C = R := ⟨_, rfl⟩
  have hC0 : 0 < C := by omega
  have hRC : R < C := by rw [← hR]; exact Nat.mod_lt _ hC0
  have hQP : Q ≤ P := by rw [← hQ]; exact Nat.div_le_self _ _
  have hdm := Nat.div_add_mod P C
  rw [hQ, hR] at hdm
  have hN : scN s n c = Q + (if scB s n c && decide (0 < R) then 1 else 0) := by unfold scN; rw [hPe, hCe, hQ, hR]
  have hL : scL s n c = if scB s n c && decide (0 < R) then C - R else R := by unfold scL; rw [hPe, hCe, hR]
  rw [hPe] at hP hB
  have hZ : (C : Int) * Q + R = P := by rw [← hdm, Int.natCast_add, Int.natCast_mul]
  unfold scaleC
  rw [hPe, hCe, if_neg (by rintro (h | h); · exact h0 h
                           · omega)]
  have key : ∀ q r : Int, c * q + r = p → ((0 < c ∧ 0 ≤ r ∧ r < c) ∨ (c < 0 ∧ r ≤ 0 ∧ c < r)) → p.fdiv c = q ∧ p.fmod c = r := fun q r h1 h2 => fdiv_keep h1 h2
  rcases Nat.eq_zero_or_pos P with hz | hz
  · rw [hz] at hB
    rw [decide_eq_false (show ¬ 0 < 0 by omega), Bool.and_false] at hB
    have hQ0 : Q = 0 := by omega
    have hR0 : R = 0 := by rw [← hR, hz, Nat.zero_mod]
    have hN2 : scN s n c = Q := by rw [hN, hB]; rfl
    have hL2 : scL s n c = R := by rw [hL, hB]; rfl
    have hk := key (0) (0) (by omega) (by omega)
    rw [hk.1, hk.2, hB, hN2, hL2]
    exact scale_fin (fun h => by cases h) (fun _ => ⟨by omega, by omega⟩) (fun _ => by omega) (fun _ => by omega)
  · rw [decide_eq_true hz, Bool.and_true] at hB
    rcases Int.lt_or_lt_of_ne h0 with hc0 | hc0
    · have hcC : c = -(C : Int) := by omega
      by_cases hp0 : p < 0
      · rw [decide_eq_true hp0, decide_eq_true hc0] at hB
        have hB : scB s n c = false := hB
        have hN2 : scN s n c = Q := by rw [hN, hB]; rfl
        have hL2 : scL s n c = R := by rw [hL, hB]; rfl
        have hk := key (Q) (-R) (by rw [hcC, Int.neg_mul]; omega) (by omega)
        rw [hk.1, hk.2, hB, hN2, hL2]
        exact scale_fin (fun h => by cases h) (fun _ => ⟨by omega, by omega⟩) (fun _ => by omega) (fun _ => by omega)
      · rw [decide_eq_false hp0, decide_eq_true hc0] at hB
        have hB : scB s n c = true := hB
        rcases Nat.eq_zero_or_pos R with hR0 | hR0
        · have hN2 : scN s n c = Q := by rw [hN, hB, decide_eq_false (show ¬ 0 < R by omega)]; rfl
          have hL2 : scL s n c = R := by rw [hL, hB, decide_eq_false (show ¬ 0 < R by omega)]; rfl
          have hk := key (-Q) (0) (by rw [hcC, Int.neg_mul_neg]; omega) (by omega)
          rw [hk.1, hk.2, hB, hN2, hL2]
          exact scale_fin (fun _ => ⟨by omega, by omega⟩) (fun h => by cases h) (fun _ => by omega) (fun _ => by omega)
        · have hN2 : scN s n c = Q + 1 := by rw [hN, hB, decide_eq_true (show 0 < R by omega)]; rfl
          have hL2 : scL s n c = C - R := by rw [hL, hB, decide_eq_true (show 0 < R by omega)]; rfl
          have hk := key (-(Q + 1)) (-(C - R)) (by rw [hcC, Int.neg_mul_neg, Int.mul_add]; omega) (by omega)
          rw [hk.1, hk.2, hB, hN2, hL2]
          exact scale_fin (fun _ => ⟨by omega, by omega⟩) (fun h => by cases h) (fun _ => by omega) (fun _ => by omega)
    · have hcC : c = (C : Int) := by omega
      by_cases hp0 : p < 0
      · rw [decide_eq_true hp0, decide_eq_false (show ¬ c < 0 by omega)] at hB
        have hB : scB s n c = true := hB
        rcases Nat.eq_zero_or_pos R with hR0 | hR0
        · have hN2 : scN s n c = Q := by rw [hN, hB, decide_eq_false (show ¬ 0 < R by omega)]; rfl
          have hL2 : scL s n c = R := by rw [hL, hB, decide_eq_false (show ¬ 0 < R by omega)]; rfl
          have hk := key (-Q) (0) (by rw [hcC, Int.mul_neg]; omega) (by omega)
          rw [hk.1, hk.2, hB, hN2, hL2]
          exact scale_fin (fun _ => ⟨by omega, by omega⟩) (fun h => by cases h) (fun _ => by omega) (fun _ => by omega)
        · have hN2 : scN s n c = Q + 1 := by rw [hN, hB, decide_eq_true (show 0 < R by omega)]; rfl
          have hL2 : scL s n c = C - R := by rw [hL, hB, decide_eq_true (show 0 < R by omega)]; rfl
          have hk := key (-(Q + 1)) (C - R) (by rw [hcC, Int.mul_neg, Int.mul_add]; omega) (by omega)
          rw [hk.1, hk.2, hB, hN2, hL2]
          exact scale_fin (fun _ => ⟨by omega, by omega⟩) (fun h => by cases h) (fun _ => by omega) (fun _ => by omega)
      · rw [decide_eq_false hp0, decide_eq_false (show ¬ c < 0 by omega)] at hB
        have hB : scB s n c = false := hB
        have hN2 : scN s n c = Q := by rw [hN, hB]; rfl
        have hL2 : scL s n c = R := by rw [hL, hB]; rfl
        have hk := key (Q) (R) (by rw [hcC]; omega) (by omega)
        rw [hk.1, hk.2, hB, hN2, hL2]
        exact scale_fin (fun h => by cases h) (fun _ => ⟨by omega, by omega⟩) (fun _ => by omega) (fun _ => by omega)

theorem small_prod {a b : Int} (ha : -9223372036854775808 ≤ a ∧ a ≤ 9223372036854775807) (hb : -2147483648 ≤ b ∧ b ≤ 2147483647) : -4611686018427387904 ≤ a / 4294967296 * b ∧ a / 4294967296 * b ≤ 4611686018427387904 := by
  have h1 : (a / 4294967296).natAbs ≤ 2147483648 := by omega
  have h2 : b.natAbs ≤ 2147483648 := by omega
  have h3 : (a / 4294967296 * b).natAbs ≤ 2147483648 * 2147483648 := by rw [Int.natAbs_mul]; exact Nat.mul_le_mul h1 h2
  have h4 : (a / 4294967296 * b).natAbs ≤ 4611686018427387904 := h3
  generalize a / 4294967296 * b = p at *
  omega

set_option maxHeartbeats 1000000 in
theorem CellWhole_walk (a b c : Int) (w : World) (ha : -9223372036854775808 ≤ a ∧ a ≤ 9223372036854775807) (hb : -2147483648 ≤ b ∧ b ≤ 2147483647) (hc : -9223372036854775808 ≤ c ∧ c ≤ 9223372036854775807) :
    Calls Try.prog 6 #[.int .i64 a, .int .i32 b, .int .i64 c] w fun e w' => e = .returned (.bool true) ∧ Below w.heap.size w w' := by
  obtain ⟨q, r, ok, hd⟩ : ∃ q r ok, divC (a / 4294967296 * b) c = (q, r, ok) := ⟨_, _, _, rfl⟩
  have hp := small_prod ha hb
  have hs := scaleC_div (c := c) hp hc
  have hs2 := scaleC_swap (a / 4294967296) b c
  rw [hs, hd] at hs2
  rw [hd] at hs
  obtain ⟨s, hse⟩ : ∃ s, a / 4294967296 = s := ⟨_, rfl⟩
  rw [hse] at hs hs2 hp hd
  have hsr : -2147483648 ≤ s ∧ s ≤ 2147483647 := by omega
  have HE := Lib.hid hse
  have HD : Hid (∀ w, Calls Try.prog 15 #[.int .i64 s, .int .i64 b, .int .i64 c] w fun e w' => e = .returned (.tuple #[.int .i64 q, .int .i64 r, .bool ok]) ∧ Below w.heap.size w w') := Lib.hid (fun w => Scale_any s b c w (by omega) (by omega) hc q r ok hs)
  have HD2 : Hid (∀ w, Calls Try.prog 15 #[.int .i64 b, .int .i64 s, .int .i64 c] w fun e w' => e = .returned (.tuple #[.int .i64 q, .int .i64 r, .bool ok]) ∧ Below w.heap.size w w') := Lib.hid (fun w => Scale_any b s c w (by omega) (by omega) hc q r ok hs2)
  obtain ⟨p, hpe⟩ : ∃ p, s * b = p := ⟨_, rfl⟩
  rw [hpe] at hp hd
  have hw : wrap64 p = p := by unfold wrap64; omega
  have HV : Hid (∀ w, Calls Try.prog 13 #[.int .i64 p, .int .i64 c] w fun e w' => e = .returned (.tuple #[.int .i64 q, .int .i64 r, .bool ok]) ∧ Below w.heap.size w w') := Lib.hid (fun w => Div_any p c w (by omega) (by omega) hc.1 hc.2 q r ok hd)
  obtain ⟨x, y, is, hbk⟩ : ∃ x y is, scaleC a c c = (x, y, is) := ⟨_, _, _, rfl⟩
  have HK : Hid (∀ w, Calls Try.prog 15 #[.int .i64 a, .int .i64 c, .int .i64 c] w fun e w' => e = .returned (.tuple #[.int .i64 x, .int .i64 y, .bool is]) ∧ Below w.heap.size w w') := Lib.hid (fun w => Scale_any a c c w ha hc hc x y is hbk)
  have hc0 : c = 0 ∨ ((c == 0) = false ∧ x = a ∧ y = 0 ∧ is = true) := by
    by_cases h : c = 0
    · exact .inl h
    · have := scaleC_back ha h
      rw [hbk] at this
      injection this with h1 h2
      injection h2 with h2 h3
      exact .inr ⟨by simpa using h, h1, h2, h3⟩
  clear hs hs2 hd hbk hp hse
  rcases hc0 with rfl | ⟨hcb, rfl, rfl, rfl⟩
  all_goals
    cases ok
    all_goals
      go_enter Try.func6, Try.ntmps6
      go_wp2_with fail
      refine (awake_any w).mono ?_
      rintro e w1 ⟨rfl, hb⟩
      have HB := Lib.hid hb
      clear hb
      go_wp2_with fail
      rw [HE.out]
      refine (HD.out _).mono ?_
      rintro e w2 ⟨rfl, hb⟩
      have HB := Lib.hid (below_two HB.out hb)
      clear hb
      go_wp2_with fail
      refine (HV.out _).mono ?_
      rintro e w3 ⟨rfl, hb⟩
      have HB := Lib.hid (below_two HB.out hb)
      clear hb
      go_wp2_with fail
      refine (HK.out _).mono ?_
      rintro e w4 ⟨rfl, hb⟩
      have HB := Lib.hid (below_two HB.out hb)
      clear hb
      go_wp2_with fail
      refine (HD2.out _).mono ?_
      rintro e w5 ⟨rfl, hb⟩
      have HB := Lib.hid (below_two HB.out hb)
      clear hb
      go_wp2
      all_goals go_ret
      all_goals (refine ⟨?_, HB.out⟩; simp)
end Go.Proofs.Ytdgocbbndkbdbaa
