/- Package nostosref06: the same as package source. -/
import Derived.Test.YtgpcjfogmakfaaaSrc3
namespace Go.Proofs.Ytgpcjfogmakfaaa
open Go.RowKit

set_option maxHeartbeats 400000 in
theorem RBound_any (s : ByteArray) (i : Int) (w : World) (hs : s.size ≤ maxLen) :
    Calls Try.prog 17 #[.string s, .int .i64 i] w fun e w' => e = .returned (.int .i64 (bound s i)) ∧ w = w' := by
  unfold maxLen at hs
  go_enter Try.func17, Try.ntmps17
  go_wp2
  all_goals
    go_ret
    exact ⟨ret_int (by unfold bound; omega), rfl⟩

set_option maxHeartbeats 1000000 in
theorem RToken_any (s : ByteArray) (i : Int) (w : World) (hs : s.size ≤ maxLen) :
    Calls Try.prog 10 #[.string s, .int .i64 i] w fun e w' => e = .returned (.tuple #[.string (s.extract (tokA s i) (tokB s i)), .int .i64 (tokA s i), .int .i64 (tokB s i)]) ∧ w = w' := by
  have h63 := hs
  unfold maxLen at h63
  go_enter Try.func10, Try.ntmps10
  go_wp2_with (go_at_call 17; refine (RBound_any s i _ hs).mono ?_; rintro e w' ⟨rfl, rfl⟩)
  go_loop [7] (fun n => ∃ k : Nat, n = .int .i64 k ∧ k ≤ s.size ∧ Hid (skip isBlank s k = skip isBlank s (bound s i))) (fun n => s.size - (intOf n).toNat)
  case atStart => exact ⟨_, rfl, bound_le _ _, Lib.hid rfl⟩
  case round =>
    obtain ⟨k, rfl, hk, HS⟩ := hrel
    by_cases hc : k < s.size ∧ bt s k ≤ 32
    · obtain ⟨hlt, hp⟩ := hc
      have hg := get_bt s k hlt
      have hr := bt_range s k
      go_wp2
      go_round
      case rel => exact ⟨k + 1, by go_num, by omega, Lib.hid (by rw [← HS.out]; exact (skip_yes hlt (by simp [isBlank, hp])).symm)⟩
      case measure => simp [intOf] <;> omega
    · have HT : Hid (tokA s i = k) := Lib.hid (by
        rw [tokA, ← HS.out]
        by_cases hlt : k < s.size
        · exact skip_no hlt (by simp [isBlank]; omega)
        · exact skip_end hlt)
      have hg := get_bt s k
      have HG := Lib.hid hg
      clear hg
      by_cases hlt : k < s.size
      all_goals
        (try have hg := HG.out hlt)
        have hr := bt_range s k
        (try have hp : ¬ bt s k ≤ 32 := fun h => hc ⟨hlt, h⟩)
        clear hc
        go_wp2
        (try clear hg)
        (try clear hp)
        clear hr HG
        go_loop [8] (fun n => ∃ m : Nat, n = .int .i64 m ∧ k ≤ m ∧ m ≤ s.size ∧ Hid (skip notBlank s m = skip notBlank s k)) (fun n => s.size - (intOf n).toNat)
        case atStart => exact ⟨_, rfl, Nat.le_refl _, hk, Lib.hid rfl⟩
        case round =>
          obtain ⟨m, rfl, hm1, hm2, HM⟩ := hrel
          by_cases hlt2 : m < s.size
          · have hg := get_bt s m hlt2
            have hr := bt_range s m
            by_cases hp2 : bt s m ≤ 32
            · have HB2 : Hid (tokB s i = m) := Lib.hid (by rw [tokB, HT.out, ← HM.out]; exact skip_no hlt2 (by simp [notBlank]; omega))
              go_wp2
              all_goals (go_ret3; rw [HT.out, HB2.out]; (try exact ⟨rfl, rfl⟩))
            · go_wp2
              all_goals
                go_round
                case rel => exact ⟨m + 1, by go_num, by omega, by omega, Lib.hid (by rw [← HM.out]; exact (skip_yes hlt2 (by simp [notBlank]; omega)).symm)⟩
                case measure => simp [intOf] <;> omega
          · have HB2 : Hid (tokB s i = m) := Lib.hid (by rw [tokB, HT.out, ← HM.out]; exact skip_end hlt2)
            go_wp2
            all_goals (go_ret3; rw [HT.out, HB2.out]; (try exact ⟨rfl, rfl⟩))
set_option maxHeartbeats 1000000 in
theorem RUntil_any (s : ByteArray) (i c : Int) (w : World) (hs : s.size ≤ maxLen) (hc0 : 0 ≤ c) (hc1 : c < 256) :
    Calls Try.prog 12 #[.string s, .int .i64 i, .int .u8 c] w fun e w' => e = .returned (.tuple #[.string (untilS s i c), .int .i64 (behind s (untilB s i c))]) ∧ w = w' := by
  have h63 := hs
  unfold maxLen at h63
  have hk := bound_le s i
  have hal := untilA_le s i
  obtain ⟨k, hk'⟩ : ∃ k, bound s i = k := ⟨_, rfl⟩
  obtain ⟨a, ha'⟩ : ∃ a, untilA s i = a := ⟨_, rfl⟩
  have hua : a = if k < s.size ∧ bt s k ≤ 32 then k + 1 else k := by rw [← ha', untilA, hk']
  rw [untilS, untilB, ha']
  rw [hk'] at hk
  rw [ha'] at hal
  have HK := Lib.hid hk'
  have hr := bt_range s k
  clear hk' ha'
  by_cases hc : k < s.size ∧ bt s k ≤ 32
  · rw [if_pos hc] at hua
    subst hua
    obtain ⟨hlt, hp⟩ := hc
    have hg := get_bt s k hlt
    go_enter Try.func12, Try.ntmps12
    go_wp2_with (go_at_call 17; refine (RBound_any s i _ hs).mono ?_; rintro e w' ⟨rfl, rfl⟩; rw [HK.out])
    (try clear hg)
    clear hr
    go_loop [9] (fun n => ∃ m : Nat, n = .int .i64 m ∧ k + 1 ≤ m ∧ m ≤ s.size ∧ Hid (skip (isNot c) s m = skip (isNot c) s (k + 1))) (fun n => s.size - (intOf n).toNat)
    case atStart => exact ⟨k + 1, by go_num, Nat.le_refl _, hal, Lib.hid rfl⟩
    case round =>
      obtain ⟨m, rfl, hm1, hm2, HM⟩ := hrel
      by_cases hlt2 : m < s.size
      · have hg := get_bt s m hlt2
        have hr := bt_range s m
        by_cases hp2 : bt s m = c
        · subst hp2
          have hsk := HM.out
          rw [skip_no hlt2 (by simp [isNot])] at hsk
          have HSK := Lib.hid hsk
          clear hsk
          go_wp2
          go_ret2
          exact ⟨ret_str_int (by rw [← HSK.out]) (by rw [← HSK.out, behind, if_pos hlt2]; omega), rfl⟩
        · have hb2 : (bt s m == c) = false := by simpa using hp2
          clear hp2
          go_wp2
          go_round
          case rel => exact ⟨m + 1, by go_num, by omega, by omega, Lib.hid (by rw [← HM.out]; exact (skip_yes hlt2 (by rw [isNot, hb2]; rfl)).symm)⟩
          case measure => simp [intOf] <;> omega
      · have hsk := HM.out
        rw [skip_end hlt2] at hsk
        obtain rfl : m = s.size := by omega
        have HSK := Lib.hid hsk
        clear hsk
        go_wp2
        go_ret2
        exact ⟨ret_str_int (by rw [← HSK.out]) (by rw [← HSK.out, behind, if_neg (by omega)]), rfl⟩
  · rw [if_neg hc] at hua
    subst hua
    have hp : a < s.size → 32 < bt s a := fun h => by omega
    clear hc
    by_cases hlt : a < s.size
    · have hp := hp hlt
      have hg := get_bt s a hlt
      go_enter Try.func12, Try.ntmps12
      go_wp2_with (go_at_call 17; refine (RBound_any s i _ hs).mono ?_; rintro e w' ⟨rfl, rfl⟩; rw [HK.out])
      (try clear hg)
      clear hr
      go_loop [9] (fun n => ∃ m : Nat, n = .int .i64 m ∧ a ≤ m ∧ m ≤ s.size ∧ Hid (skip (isNot c) s m = skip (isNot c) s (a))) (fun n => s.size - (intOf n).toNat)
      case atStart => exact ⟨a, by go_num, Nat.le_refl _, hal, Lib.hid rfl⟩
      case round =>
        obtain ⟨m, rfl, hm1, hm2, HM⟩ := hrel
        by_cases hlt2 : m < s.size
        · have hg := get_bt s m hlt2
          have hr := bt_range s m
          by_cases hp2 : bt s m = c
          · subst hp2
            have hsk := HM.out
            rw [skip_no hlt2 (by simp [isNot])] at hsk
            have HSK := Lib.hid hsk
            clear hsk
            go_wp2
            go_ret2
            exact ⟨ret_str_int (by rw [← HSK.out]) (by rw [← HSK.out, behind, if_pos hlt2]; omega), rfl⟩
          · have hb2 : (bt s m == c) = false := by simpa using hp2
            clear hp2
            go_wp2
            go_round
            case rel => exact ⟨m + 1, by go_num, by omega, by omega, Lib.hid (by rw [← HM.out]; exact (skip_yes hlt2 (by rw [isNot, hb2]; rfl)).symm)⟩
            case measure => simp [intOf] <;> omega
        · have hsk := HM.out
          rw [skip_end hlt2] at hsk
          obtain rfl : m = s.size := by omega
          have HSK := Lib.hid hsk
          clear hsk
          go_wp2
          go_ret2
          exact ⟨ret_str_int (by rw [← HSK.out]) (by rw [← HSK.out, behind, if_neg (by omega)]), rfl⟩
    · clear hp
      go_enter Try.func12, Try.ntmps12
      go_wp2_with (go_at_call 17; refine (RBound_any s i _ hs).mono ?_; rintro e w' ⟨rfl, rfl⟩; rw [HK.out])
      (try clear hg)
      clear hr
      go_loop [9] (fun n => ∃ m : Nat, n = .int .i64 m ∧ a ≤ m ∧ m ≤ s.size ∧ Hid (skip (isNot c) s m = skip (isNot c) s (a))) (fun n => s.size - (intOf n).toNat)
      case atStart => exact ⟨a, by go_num, Nat.le_refl _, hal, Lib.hid rfl⟩
      case round =>
        obtain ⟨m, rfl, hm1, hm2, HM⟩ := hrel
        by_cases hlt2 : m < s.size
        · have hg := get_bt s m hlt2
          have hr := bt_range s m
          by_cases hp2 : bt s m = c
          · subst hp2
            have hsk := HM.out
            rw [skip_no hlt2 (by simp [isNot])] at hsk
            have HSK := Lib.hid hsk
            clear hsk
            go_wp2
            go_ret2
            exact ⟨ret_str_int (by rw [← HSK.out]) (by rw [← HSK.out, behind, if_pos hlt2]; omega), rfl⟩
          · have hb2 : (bt s m == c) = false := by simpa using hp2
            clear hp2
            go_wp2
            go_round
            case rel => exact ⟨m + 1, by go_num, by omega, by omega, Lib.hid (by rw [← HM.out]; exact (skip_yes hlt2 (by rw [isNot, hb2]; rfl)).symm)⟩
            case measure => simp [intOf] <;> omega
        · have hsk := HM.out
          rw [skip_end hlt2] at hsk
          obtain rfl : m = s.size := by omega
          have HSK := Lib.hid hsk
          clear hsk
          go_wp2
          go_ret2
          exact ⟨ret_str_int (by rw [← HSK.out]) (by rw [← HSK.out, behind, if_neg (by omega)]), rfl⟩

set_option maxHeartbeats 1000000 in
theorem RLine_any (s : ByteArray) (i : Int) (w : World) (hs : s.size ≤ maxLen) :
    Calls Try.prog 14 #[.string s, .int .i64 i] w fun e w' => e = .returned (.int .i64 (lineR s i)) ∧ w = w' := by
  have h63 := hs
  unfold maxLen at h63
  go_enter Try.func14, Try.ntmps14
  go_wp2_with (go_at_call 17; refine (RBound_any s i _ hs).mono ?_; rintro e w' ⟨rfl, rfl⟩)
  go_loop [5] (fun n => ∃ m : Nat, n = .int .i64 m ∧ m ≤ s.size ∧ Hid (skip (isNot 10) s m = skip (isNot 10) s (bound s i))) (fun n => s.size - (intOf n).toNat)
  case atStart => exact ⟨_, rfl, bound_le _ _, Lib.hid rfl⟩
  case round =>
    obtain ⟨m, rfl, hm2, HM⟩ := hrel
    by_cases hlt2 : m < s.size
    · have hg := get_bt s m hlt2
      have hr := bt_range s m
      by_cases hp2 : bt s m = 10
      · have hsk := HM.out
        rw [skip_no hlt2 (by simp [isNot, hp2])] at hsk
        have HSK := Lib.hid hsk
        rw [hp2] at hg
        clear hsk hp2
        go_wp2
        go_ret
        exact ⟨ret_int (by rw [lineR, ← HSK.out, behind, if_pos hlt2]; omega), rfl⟩
      · have hb2 : (bt s m == 10) = false := by simpa using hp2
        clear hp2
        go_wp2
        go_round
        case rel => exact ⟨m + 1, by go_num, by omega, Lib.hid (by rw [← HM.out]; exact (skip_yes hlt2 (by rw [isNot, hb2]; rfl)).symm)⟩
        case measure => simp [intOf] <;> omega
    · have hsk := HM.out
      rw [skip_end hlt2] at hsk
      obtain rfl : m = s.size := by omega
      have HSK := Lib.hid hsk
      clear hsk
      go_wp2
      go_ret
      exact ⟨ret_int (by rw [lineR, ← HSK.out, behind, if_neg (by omega)]), rfl⟩
set_option maxHeartbeats 1000000 in
theorem RPlace_any (s : ByteArray) (i : Int) (w : World) (h63 : s.size ≤ 1000000) :
    Calls Try.prog 16 #[.string s, .int .i64 i] w fun e w' => e = .returned (.tuple #[.int .i64 (lineOf s (bound s i)), .int .i64 (colOf s (bound s i))]) ∧ w = w' := by
  have hs : s.size ≤ maxLen := by unfold maxLen; omega
  go_enter Try.func16, Try.ntmps16
  go_wp2
  have hk := bound_le s i
  go_loop [7, 6, 8] (fun b a n => ∃ k : Nat, n = .int .i64 k ∧ k ≤ bound s i ∧ a = .int .i64 (lineOf s k) ∧ b = .int .i64 (colOf s k)) (fun _ _ n => bound s i - (intOf n).toNat)
  case atStart => exact ⟨0, rfl, by omega, rfl, rfl⟩
  case round =>
    obtain ⟨k, rfl, hkb, rfl, rfl⟩ := hrel
    have hb := beginOf_le s k
    have hl := lineOf_le s k
    have hc0 : 1 ≤ colOf s k ∧ colOf s k ≤ k + 1 := by unfold colOf; omega
    have hls : Hid (lineOf s (k + 1) = if bt s k = 10 then lineOf s k + 1 else lineOf s k) := rfl
    have hbs : Hid (beginOf s (k + 1) = if bt s k = 10 then k + 1 else beginOf s k) := rfl
    by_cases hlt : k < bound s i
    · have hlt2 : k < s.size := by omega
      have hg := get_bt s k hlt2
      have hr := bt_range s k
      by_cases hp : bt s k = 10
      · have e1 := hls.out
        have e2 := hbs.out
        rw [if_pos hp] at e1 e2
        have E1 := Lib.hid e1
        have E2 := Lib.hid e2
        rw [hp] at hg
        clear e1 e2 hls hbs hp hb
        go_wp2_with (go_at_call 17; refine (RBound_any s i _ hs).mono ?_; rintro e w' ⟨rfl, rfl⟩)
        go_round
        case rel => exact ⟨k + 1, by go_num, by omega, by rw [E1.out]; go_num, by rw [colOf, E2.out, show ((k + 1 : Nat) : Int) - ((k + 1 : Nat) : Int) + 1 = 1 by omega]⟩
        case measure => simp [intOf] <;> omega
      · have e1 := hls.out
        have e2 := hbs.out
        rw [if_neg hp] at e1 e2
        have E1 := Lib.hid e1
        have E2 := Lib.hid e2
        have hb2 : (bt s k == 10) = false := by simpa using hp
        clear e1 e2 hls hbs hp hb
        go_wp2_with (go_at_call 17; refine (RBound_any s i _ hs).mono ?_; rintro e w' ⟨rfl, rfl⟩)
        go_round
        case rel => exact ⟨k + 1, by go_num, by omega, by rw [E1.out], by rw [colOf, colOf, E2.out, show ((k + 1 : Nat) : Int) - (beginOf s k : Int) + 1 = (k : Int) - beginOf s k + 1 + 1 by omega]⟩
        case measure => simp [intOf] <;> omega
    · go_wp2_with (go_at_call 17; refine (RBound_any s i _ hs).mono ?_; rintro e w' ⟨rfl, rfl⟩)
      obtain rfl : k = bound s i := by omega
      go_ret2
      exact ⟨rfl, rfl⟩
end Go.Proofs.Ytgpcjfogmakfaaa
