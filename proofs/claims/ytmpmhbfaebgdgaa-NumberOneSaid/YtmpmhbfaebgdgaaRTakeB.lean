/- nostosref05.Take, in part (B). -/
import Derived.Test.YtmpmhbfaebgdgaaRTake
namespace Go.Proofs.Ytmpmhbfaebgdgaa
open Go.RowKit

set_option maxHeartbeats 4000000 in
set_option maxRecDepth 100000 in
theorem RTake_BT (s : ByteArray) (b sg : Int) (w : World) (x : Int) (ok : Bool) (hch : isChar s = false) (hsg : signB s = sg) (hs0 : 0 < sg) (hk : 1 < s.size) (hm : bt s 1 = 45) (hx : (if putOk sg && decide (2 < s.size) then finR (scan s sg 2 0) true else (0, false)) = (x, ok)) (hs : s.size ≤ 1000000) :
    Calls Try.prog 12 #[.string s, .int .i64 b] w fun e w' => e = .returned (.tuple #[.int .i64 x, .bool ok]) ∧ w = w' := by
  have HSG : Hid (∀ w, Calls Try.prog 18 #[.string s] w fun e w' => e = .returned (.int .i64 sg) ∧ w = w') := Lib.hid (fun w => by rw [← hsg]; exact RSigned_any s w hs)
  have HX := Lib.hid hx
  have hsp : 0 < s.size := by
    rcases Nat.eq_zero_or_pos s.size with h | h
    · rw [signB_0 h] at hsg
      omega
    · exact h
  clear hsg hx
  have gk := get_bt s 1 hk
  rw [hm] at gk
  have hsz := hs
  rcases notChar hch with h3 | ⟨h3, ha⟩ | ⟨h3, ha, hb⟩
  case' inl =>
    have h3' : ((s.size : Int) == 3) = false := by rw [beq_eq_false_iff_ne]; omega
  case' inr.inl =>
    have g0 := get_bt s 0 (by omega)
    have hn : (bt s 0 == 39) = false := by simpa using ha
    have h3' : ((s.size : Int) == 3) = true := by rw [h3]; rfl
  case' inr.inr =>
    have g0 := get_bt s 0 (by omega)
    have g2 := get_bt s 2 (by omega)
    have hn : (bt s 2 == 39) = false := by simpa using hb
    have h3' : ((s.size : Int) == 3) = true := by rw [h3]; rfl
  all_goals
    go_enter Try.func12, Try.ntmps12
    cases hpk : putOk sg with
    | false =>
      have hxx := HX.out
      rw [hpk] at hxx
      have hx2 : ((0 : Int), false) = (x, ok) := hxx
      injection hx2 with hx3 hx4
      subst hx3 hx4
      have hb : ¬ 2 ≤ sg ∨ ¬ sg ≤ 36 := by
        unfold putOk at hpk
        rw [Bool.and_eq_false_iff] at hpk
        simpa using hpk
      clear hpk hxx HX
      by_cases h2 : sg < 2
      · go_wp2_with (go_at_call 18; refine (HSG.out _).mono ?_; rintro e w' ⟨rfl, rfl⟩)
        all_goals (go_ret2; exact ⟨rfl, rfl⟩)
      · have h36 : 36 < sg := by omega
        clear hb
        go_wp2_with (go_at_call 18; refine (HSG.out _).mono ?_; rintro e w' ⟨rfl, rfl⟩)
        all_goals (go_ret2; exact ⟨rfl, rfl⟩)
    | true =>
      have hb : 2 ≤ sg ∧ sg ≤ 36 := by simpa [putOk] using hpk
      obtain ⟨hb0, hb1⟩ := hb
      by_cases hz : 2 < s.size
      · have hst : finR (scan s sg 2 0) true = (x, ok) := by
          rw [← HX.out, hpk, decide_eq_true hz]
          rfl
        have HST := Lib.hid hst
        have hzz : ((2 : Int) == (s.size : Int)) = false := by rw [beq_eq_false_iff_ne]; omega
        clear hst HX hpk
        go_wp2_with (go_at_call 18; refine (HSG.out _).mono ?_; rintro e w' ⟨rfl, rfl⟩)
        go_loop [8, 9] (fun a i => ∃ (n : Int) (pos : Nat), a = .int .i64 n ∧ i = .int .i64 pos ∧ pos ≤ s.size ∧ Hid (finR (scan s sg pos n) true = (x, ok))) (fun _ i => s.size - (intOf i).toNat)
        case atStart => exact ⟨0, 2, rfl, by go_num, by omega, HST⟩
        case round =>
          obtain ⟨n, pos, rfl, rfl, hpos, HF⟩ := hrel
          by_cases hlt : pos < s.size
          · have hg := get_bt s pos hlt
            have hr := bt_range s pos
            have HFG : Hid (∀ w, Calls Try.prog 19 #[.int .u8 (bt s pos)] w fun e w' => e = .returned (.int .i64 (figN (bt s pos))) ∧ w = w') := Lib.hid (fun w => RFigure_any _ w hr.1 hr.2)
            have HYES := Lib.hid (fun hf => scan_yes (b := sg) (n := n) hlt hf)
            have HNO := Lib.hid (fun hf => scan_no (b := sg) (n := n) hlt hf)
            have hfl := figN_lt (bt s pos)
            have hisf : isFig sg (bt s pos) = (decide (0 ≤ figN (bt s pos)) && decide (figN (bt s pos) < sg)) := rfl
            cases hif : isFig sg (bt s pos) with
            | true =>
              have HY := Lib.hid (HYES.out hif)
              rw [hif] at hisf
              have hi2 := hisf.symm
              simp only [Bool.and_eq_true, decide_eq_true_eq] at hi2
              obtain ⟨hi3, hi4⟩ := hi2
              generalize figN (bt s pos) = d at *
              generalize bt s pos = c at *
              clear hisf hif HYES HNO
              go_wp2_with (go_at_call 19; refine (HFG.out _).mono ?_; rintro e w' ⟨rfl, rfl⟩)
              go_round
              case rel => exact ⟨stepN n sg d, pos + 1, rfl, by go_num, by omega, Lib.hid (by rw [← HY.out]; exact HF.out)⟩
              case measure => simp [intOf] <;> omega
            | false =>
              have hxx := HF.out
              rw [HNO.out hif] at hxx
              have hx2 : ((0 : Int), false) = (x, ok) := hxx
              injection hx2 with hx3 hx4
              rw [hif] at hisf
              have hi2 := hisf.symm
              have hi3 : ¬ 0 ≤ figN (bt s pos) ∨ ¬ figN (bt s pos) < sg := by
                rw [Bool.and_eq_false_iff] at hi2
                simpa using hi2
              generalize figN (bt s pos) = d at *
              generalize bt s pos = c at *
              clear hisf hif HYES HNO hi2 hxx HF
              subst hx3 hx4
              by_cases hi4 : 0 ≤ d
              · have hi5 : ¬ d < sg := by rcases hi3 with h | h; exact absurd hi4 h; exact h
                clear hi3
                go_wp2_with (go_at_call 19; refine (HFG.out _).mono ?_; rintro e w' ⟨rfl, rfl⟩)
                all_goals (go_ret2; exact ⟨rfl, rfl⟩)
              · clear hi3
                go_wp2_with (go_at_call 19; refine (HFG.out _).mono ?_; rintro e w' ⟨rfl, rfl⟩)
                all_goals (go_ret2; exact ⟨rfl, rfl⟩)
          · have hxx := HF.out
            rw [scan_end hlt] at hxx
            have hx2 : (neg64 n, true) = (x, ok) := hxx
            injection hx2 with hx3 hx4
            subst hx3 hx4
            go_wp2
            all_goals (go_ret2; exact ⟨rfl, rfl⟩)
      · have hxx := HX.out
        rw [hpk, decide_eq_false hz] at hxx
        have hx2 : ((0 : Int), false) = (x, ok) := hxx
        injection hx2 with hx3 hx4
        subst hx3 hx4
        have hzz : ((2 : Int) == (s.size : Int)) = true := by rw [beq_iff_eq]; omega
        clear hpk hxx HX
        go_wp2_with (go_at_call 18; refine (HSG.out _).mono ?_; rintro e w' ⟨rfl, rfl⟩)
        all_goals (go_ret2; exact ⟨rfl, rfl⟩)


set_option maxHeartbeats 4000000 in
set_option maxRecDepth 100000 in
theorem RTake_BE (s : ByteArray) (b sg : Int) (w : World) (x : Int) (ok : Bool) (hch : isChar s = false) (hsg : signB s = sg) (hs0 : 0 < sg) (hk : ¬ 1 < s.size) (hx : (if putOk sg && decide (1 < s.size) then finR (scan s sg 1 0) false else (0, false)) = (x, ok)) (hs : s.size ≤ 1000000) :
    Calls Try.prog 12 #[.string s, .int .i64 b] w fun e w' => e = .returned (.tuple #[.int .i64 x, .bool ok]) ∧ w = w' := by
  have HSG : Hid (∀ w, Calls Try.prog 18 #[.string s] w fun e w' => e = .returned (.int .i64 sg) ∧ w = w') := Lib.hid (fun w => by rw [← hsg]; exact RSigned_any s w hs)
  have HX := Lib.hid hx
  have hsp : 0 < s.size := by
    rcases Nat.eq_zero_or_pos s.size with h | h
    · rw [signB_0 h] at hsg
      omega
    · exact h
  clear hsg hx
  have hsz := hs
  rcases notChar hch with h3 | ⟨h3, ha⟩ | ⟨h3, ha, hb⟩
  case' inl =>
    have h3' : ((s.size : Int) == 3) = false := by rw [beq_eq_false_iff_ne]; omega
  case inr.inl => omega
  case inr.inr => omega
  all_goals
    go_enter Try.func12, Try.ntmps12
    cases hpk : putOk sg with
    | false =>
      have hxx := HX.out
      rw [hpk] at hxx
      have hx2 : ((0 : Int), false) = (x, ok) := hxx
      injection hx2 with hx3 hx4
      subst hx3 hx4
      have hb : ¬ 2 ≤ sg ∨ ¬ sg ≤ 36 := by
        unfold putOk at hpk
        rw [Bool.and_eq_false_iff] at hpk
        simpa using hpk
      clear hpk hxx HX
      by_cases h2 : sg < 2
      · go_wp2_with (go_at_call 18; refine (HSG.out _).mono ?_; rintro e w' ⟨rfl, rfl⟩)
        all_goals (go_ret2; exact ⟨rfl, rfl⟩)
      · have h36 : 36 < sg := by omega
        clear hb
        go_wp2_with (go_at_call 18; refine (HSG.out _).mono ?_; rintro e w' ⟨rfl, rfl⟩)
        all_goals (go_ret2; exact ⟨rfl, rfl⟩)
    | true =>
      have hb : 2 ≤ sg ∧ sg ≤ 36 := by simpa [putOk] using hpk
      obtain ⟨hb0, hb1⟩ := hb
      by_cases hz : 1 < s.size
      · exact absurd hz hk
      · have hxx := HX.out
        rw [hpk, decide_eq_false hz] at hxx
        have hx2 : ((0 : Int), false) = (x, ok) := hxx
        injection hx2 with hx3 hx4
        subst hx3 hx4
        have hzz : ((1 : Int) == (s.size : Int)) = true := by rw [beq_iff_eq]; omega
        clear hpk hxx HX
        go_wp2_with (go_at_call 18; refine (HSG.out _).mono ?_; rintro e w' ⟨rfl, rfl⟩)
        all_goals (go_ret2; exact ⟨rfl, rfl⟩)


set_option maxHeartbeats 4000000 in
set_option maxRecDepth 100000 in
theorem RTake_BN (s : ByteArray) (b sg : Int) (w : World) (x : Int) (ok : Bool) (hch : isChar s = false) (hsg : signB s = sg) (hs0 : 0 < sg) (hk : 1 < s.size) (hm : bt s 1 ≠ 45) (hx : (if putOk sg && decide (1 < s.size) then finR (scan s sg 1 0) false else (0, false)) = (x, ok)) (hs : s.size ≤ 1000000) :
    Calls Try.prog 12 #[.string s, .int .i64 b] w fun e w' => e = .returned (.tuple #[.int .i64 x, .bool ok]) ∧ w = w' := by
  have HSG : Hid (∀ w, Calls Try.prog 18 #[.string s] w fun e w' => e = .returned (.int .i64 sg) ∧ w = w') := Lib.hid (fun w => by rw [← hsg]; exact RSigned_any s w hs)
  have HX := Lib.hid hx
  have hsp : 0 < s.size := by
    rcases Nat.eq_zero_or_pos s.size with h | h
    · rw [signB_0 h] at hsg
      omega
    · exact h
  clear hsg hx
  have gk := get_bt s 1 hk
  have hmn : (bt s 1 == 45) = false := by simpa using hm
  have hsz := hs
  rcases notChar hch with h3 | ⟨h3, ha⟩ | ⟨h3, ha, hb⟩
  case' inl =>
    have h3' : ((s.size : Int) == 3) = false := by rw [beq_eq_false_iff_ne]; omega
  case' inr.inl =>
    have g0 := get_bt s 0 (by omega)
    have hn : (bt s 0 == 39) = false := by simpa using ha
    have h3' : ((s.size : Int) == 3) = true := by rw [h3]; rfl
  case' inr.inr =>
    have g0 := get_bt s 0 (by omega)
    have g2 := get_bt s 2 (by omega)
    have hn : (bt s 2 == 39) = false := by simpa using hb
    have h3' : ((s.size : Int) == 3) = true := by rw [h3]; rfl
  all_goals
    go_enter Try.func12, Try.ntmps12
    cases hpk : putOk sg with
    | false =>
      have hxx := HX.out
      rw [hpk] at hxx
      have hx2 : ((0 : Int), false) = (x, ok) := hxx
      injection hx2 with hx3 hx4
      subst hx3 hx4
      have hb : ¬ 2 ≤ sg ∨ ¬ sg ≤ 36 := by
        unfold putOk at hpk
        rw [Bool.and_eq_false_iff] at hpk
        simpa using hpk
      clear hpk hxx HX
      by_cases h2 : sg < 2
      · go_wp2_with (go_at_call 18; refine (HSG.out _).mono ?_; rintro e w' ⟨rfl, rfl⟩)
        all_goals (go_ret2; exact ⟨rfl, rfl⟩)
      · have h36 : 36 < sg := by omega
        clear hb
        go_wp2_with (go_at_call 18; refine (HSG.out _).mono ?_; rintro e w' ⟨rfl, rfl⟩)
        all_goals (go_ret2; exact ⟨rfl, rfl⟩)
    | true =>
      have hb : 2 ≤ sg ∧ sg ≤ 36 := by simpa [putOk] using hpk
      obtain ⟨hb0, hb1⟩ := hb
      by_cases hz : 1 < s.size
      · have hst : finR (scan s sg 1 0) false = (x, ok) := by
          rw [← HX.out, hpk, decide_eq_true hz]
          rfl
        have HST := Lib.hid hst
        have hzz : ((1 : Int) == (s.size : Int)) = false := by rw [beq_eq_false_iff_ne]; omega
        clear hst HX hpk
        go_wp2_with (go_at_call 18; refine (HSG.out _).mono ?_; rintro e w' ⟨rfl, rfl⟩)
        go_loop [8, 9] (fun a i => ∃ (n : Int) (pos : Nat), a = .int .i64 n ∧ i = .int .i64 pos ∧ pos ≤ s.size ∧ Hid (finR (scan s sg pos n) false = (x, ok))) (fun _ i => s.size - (intOf i).toNat)
        case atStart => exact ⟨0, 1, rfl, by go_num, by omega, HST⟩
        case round =>
          obtain ⟨n, pos, rfl, rfl, hpos, HF⟩ := hrel
          by_cases hlt : pos < s.size
          · have hg := get_bt s pos hlt
            have hr := bt_range s pos
            have HFG : Hid (∀ w, Calls Try.prog 19 #[.int .u8 (bt s pos)] w fun e w' => e = .returned (.int .i64 (figN (bt s pos))) ∧ w = w') := Lib.hid (fun w => RFigure_any _ w hr.1 hr.2)
            have HYES := Lib.hid (fun hf => scan_yes (b := sg) (n := n) hlt hf)
            have HNO := Lib.hid (fun hf => scan_no (b := sg) (n := n) hlt hf)
            have hfl := figN_lt (bt s pos)
            have hisf : isFig sg (bt s pos) = (decide (0 ≤ figN (bt s pos)) && decide (figN (bt s pos) < sg)) := rfl
            cases hif : isFig sg (bt s pos) with
            | true =>
              have HY := Lib.hid (HYES.out hif)
              rw [hif] at hisf
              have hi2 := hisf.symm
              simp only [Bool.and_eq_true, decide_eq_true_eq] at hi2
              obtain ⟨hi3, hi4⟩ := hi2
              generalize figN (bt s pos) = d at *
              generalize bt s pos = c at *
              clear hisf hif HYES HNO
              go_wp2_with (go_at_call 19; refine (HFG.out _).mono ?_; rintro e w' ⟨rfl, rfl⟩)
              go_round
              case rel => exact ⟨stepN n sg d, pos + 1, rfl, by go_num, by omega, Lib.hid (by rw [← HY.out]; exact HF.out)⟩
              case measure => simp [intOf] <;> omega
            | false =>
              have hxx := HF.out
              rw [HNO.out hif] at hxx
              have hx2 : ((0 : Int), false) = (x, ok) := hxx
              injection hx2 with hx3 hx4
              rw [hif] at hisf
              have hi2 := hisf.symm
              have hi3 : ¬ 0 ≤ figN (bt s pos) ∨ ¬ figN (bt s pos) < sg := by
                rw [Bool.and_eq_false_iff] at hi2
                simpa using hi2
              generalize figN (bt s pos) = d at *
              generalize bt s pos = c at *
              clear hisf hif HYES HNO hi2 hxx HF
              subst hx3 hx4
              by_cases hi4 : 0 ≤ d
              · have hi5 : ¬ d < sg := by rcases hi3 with h | h; exact absurd hi4 h; exact h
                clear hi3
                go_wp2_with (go_at_call 19; refine (HFG.out _).mono ?_; rintro e w' ⟨rfl, rfl⟩)
                all_goals (go_ret2; exact ⟨rfl, rfl⟩)
              · clear hi3
                go_wp2_with (go_at_call 19; refine (HFG.out _).mono ?_; rintro e w' ⟨rfl, rfl⟩)
                all_goals (go_ret2; exact ⟨rfl, rfl⟩)
          · have hxx := HF.out
            rw [scan_end hlt] at hxx
            have hx2 : (n, true) = (x, ok) := hxx
            injection hx2 with hx3 hx4
            subst hx3 hx4
            go_wp2
            all_goals (go_ret2; exact ⟨rfl, rfl⟩)
      · have hxx := HX.out
        rw [hpk, decide_eq_false hz] at hxx
        have hx2 : ((0 : Int), false) = (x, ok) := hxx
        injection hx2 with hx3 hx4
        subst hx3 hx4
        have hzz : ((1 : Int) == (s.size : Int)) = true := by rw [beq_iff_eq]; omega
        clear hpk hxx HX
        go_wp2_with (go_at_call 18; refine (HSG.out _).mono ?_; rintro e w' ⟨rfl, rfl⟩)
        all_goals (go_ret2; exact ⟨rfl, rfl⟩)


end Go.Proofs.Ytmpmhbfaebgdgaa
