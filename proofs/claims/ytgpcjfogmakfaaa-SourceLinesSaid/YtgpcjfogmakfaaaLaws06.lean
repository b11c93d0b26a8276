/- The walks of the laws of nostoslaw06. -/
import Derived.Test.YtgpcjfogmakfaaaAwake06
import Derived.Test.YtgpcjfogmakfaaaPlain06b
namespace Go.Proofs.Ytgpcjfogmakfaaa
open Go.RowKit

set_option maxHeartbeats 1000000 in
theorem SourceTokens_walk (s : ByteArray) (i : Int) (w : World) (hs : s.size ≤ maxLen) :
    Calls Try.prog 3 #[.string s, .int .i64 i] w fun e w' => e = .returned (.bool true) ∧ Below w.heap.size w w' := by
  have h63 := hs
  unfold maxLen at h63
  go_enter Try.func3, Try.ntmps3
  go_wp2_with fail
  refine (awake_any w).mono ?_
  rintro e w1 ⟨rfl, h1⟩
  have H1 := Lib.hid h1
  clear h1
  by_cases h200 : 200 < s.size
  · go_wp2
    go_ret
    exact ⟨rfl, H1.out⟩
  · go_wp2_with fail
    refine (Token_any s i _ hs).mono ?_
    rintro e w2 ⟨rfl, h1⟩
    have H2 := Lib.hid (below_two H1.out h1)
    clear h1 H1
    go_wp2_with (go_at_call 10; refine (RToken_any s i _ hs).mono ?_; rintro e w' ⟨rfl, rfl⟩)
    go_ret
    exact ⟨rfl, H2.out⟩

set_option maxHeartbeats 1000000 in
theorem SourceUntil_walk (s : ByteArray) (i c : Int) (w : World) (hs : s.size ≤ maxLen) (hc0 : 0 ≤ c) (hc1 : c < 256) :
    Calls Try.prog 4 #[.string s, .int .i64 i, .int .u8 c] w fun e w' => e = .returned (.bool true) ∧ Below w.heap.size w w' := by
  have h63 := hs
  unfold maxLen at h63
  go_enter Try.func4, Try.ntmps4
  go_wp2_with fail
  refine (awake_any w).mono ?_
  rintro e w1 ⟨rfl, h1⟩
  have H1 := Lib.hid h1
  clear h1
  by_cases h200 : 200 < s.size
  · go_wp2
    go_ret
    exact ⟨rfl, H1.out⟩
  · go_wp2_with fail
    refine (Until_any s i c _ hs hc0 hc1).mono ?_
    rintro e w2 ⟨rfl, h1⟩
    have H2 := Lib.hid (below_two H1.out h1)
    clear h1 H1
    go_wp2_with fail
    refine (RUntil_any s i c _ hs hc0 hc1).mono ?_
    rintro e w' ⟨rfl, rfl⟩
    go_wp2_with fail
    refine (Line_any s i _ hs).mono ?_
    rintro e w3 ⟨rfl, h1⟩
    have H3 := Lib.hid (below_two H2.out h1)
    clear h1 H2
    go_wp2_with (go_at_call 14; refine (RLine_any s i _ hs).mono ?_; rintro e w' ⟨rfl, rfl⟩)
    go_ret
    exact ⟨rfl, H3.out⟩

set_option maxHeartbeats 1000000 in
theorem SourcePlaces_walk (s : ByteArray) (i m : Int) (w : World) (hs : s.size ≤ maxLen) :
    Calls Try.prog 5 #[.string s, .int .i64 i, .int .i64 m] w fun e w' => e = .returned (.bool true) ∧ Below w.heap.size w w' := by
  have h63 := hs
  unfold maxLen at h63
  go_enter Try.func5, Try.ntmps5
  go_wp2_with fail
  refine (awake_any w).mono ?_
  rintro e w1 ⟨rfl, h1⟩
  have H1 := Lib.hid h1
  clear h1
  by_cases h200 : 200 < s.size
  · go_wp2
    go_ret
    exact ⟨rfl, H1.out⟩
  · have h6 : s.size ≤ 1000000 := by omega
    go_wp2_with fail
    refine (Place_any s i _ h6).mono ?_
    rintro e w2 ⟨rfl, h1⟩
    have H2 := Lib.hid (below_two H1.out h1)
    clear h1 H1
    go_wp2_with fail
    refine (RPlace_any s i _ h6).mono ?_
    rintro e w' ⟨rfl, rfl⟩
    go_wp2_with fail
    refine (Place_any s m _ h6).mono ?_
    rintro e w3 ⟨rfl, h1⟩
    have H3 := Lib.hid (below_two H2.out h1)
    clear h1 H2
    have hb1 := bound_le s i
    have hb2 := bound_le s m
    have hl1 := lineOf_le s (bound s i)
    have hl2 := lineOf_le s (bound s m)
    have ht := place_turn s (bound s i) (bound s m)
    have HB1 : Hid (∀ w, Calls Try.prog 17 #[.string s, .int .i64 i] w fun e w' => e = .returned (.int .i64 (bound s i)) ∧ w = w') := fun w => RBound_any s i w hs
    have HB2 : Hid (∀ w, Calls Try.prog 17 #[.string s, .int .i64 m] w fun e w' => e = .returned (.int .i64 (bound s m)) ∧ w = w') := fun w => RBound_any s m w hs
    generalize lineOf s (bound s i) = L1 at *
    generalize lineOf s (bound s m) = L2 at *
    generalize colOf s (bound s i) = C1 at *
    generalize colOf s (bound s m) = C2 at *
    generalize bound s i = n1 at *
    generalize bound s m = n2 at *
    have cases : (n1 < n2 ∧ L1 < L2) ∨ (n1 < n2 ∧ L1 = L2 ∧ C1 < C2) ∨ (n2 ≤ n1 ∧ L2 < L1) ∨ (n2 ≤ n1 ∧ L1 = L2 ∧ C2 ≤ C1) := by omega
    clear ht
    rcases cases with ⟨ha, hb⟩ | ⟨ha, rfl, hb⟩ | ⟨ha, hb⟩ | ⟨ha, rfl, hb⟩
    all_goals
      (try have hq1 : (L1 == L2) = false := by simp; omega)
      (try have hq2 : ((L1 : Int) == L2) = false := by simp; omega)
      go_wp2_with (go_at_call 17; (first | (with_reducible refine (HB1.out _).mono ?_) | (with_reducible refine (HB2.out _).mono ?_)); rintro e w' ⟨rfl, rfl⟩)
      go_ret
      first | exact ⟨rfl, H3.out⟩ | exact ⟨ret_bool (by first | (simp [ha, hb]; done) | (simp; omega)), H3.out⟩

set_option maxHeartbeats 1000000 in
set_option maxRecDepth 100000 in
theorem SourceLines_walk (s : ByteArray) (w : World) (hs : s.size ≤ maxLen) :
    Calls Try.prog 7 #[.string s] w fun e w' => e = .returned (.bool true) ∧ Below w.heap.size w w' := by
  have h63 := hs
  unfold maxLen at h63
  go_enter Try.func7, Try.ntmps7
  go_wp2_with fail
  refine (awake_any w).mono ?_
  rintro e w1 ⟨rfl, h1⟩
  have H1 := Lib.hid h1
  clear h1
  by_cases h200 : 200 < s.size
  · go_wp2
    go_ret
    exact ⟨rfl, H1.out⟩
  · have h6 : s.size ≤ 1000000 := by omega
    go_wp2_with fail
    go_loopw [4, 5, 6] (fun a n j wr => ∃ k jx nn : Nat, a = .int .i64 k ∧ n = .int .i64 nn ∧ j = .int .i64 jx ∧ jx ≤ k ∧ k ≤ s.size ∧ nn ≤ k + 1 ∧ Hid (k < s.size → nn = lineOf s k ∧ beginOf s k = k) ∧ Hid (Below w.heap.size w wr)) (fun a _ _ _ => s.size - (intOf a).toNat)
    case atStart => exact ⟨0, 0, 1, rfl, rfl, rfl, by omega, by omega, by omega, Lib.hid fun _ => ⟨rfl, rfl⟩, H1⟩
    case round =>
      obtain ⟨k, jx, nn, rfl, rfl, rfl, hjk, hks, hnn, HL, HB⟩ := hrel
      by_cases hlt : k < s.size
      · have hl := HL.out hlt
        have hn := line_next s k hlt hl.2
        have hlr : lineR s (k : Int) = behind s (skip (isNot 10) s k) := by rw [lineR, bound_nat s k hks]
        simp only at hn
        rw [← hlr] at hn
        have hn1 := hn.1
        have hn2 := hn.2.1
        have hq1 := hn.2.2.1
        have HN := Lib.hid hn.2.2.2
        have hpl : (lineOf s (bound s (k : Int)) : Int) = nn := by rw [bound_nat s k hks, ← hl.1]
        have hpc : colOf s (bound s (k : Int)) = 1 := by rw [bound_nat s k hks, colOf, hl.2]; omega
        have HPL := Lib.hid hpl
        have HPC := Lib.hid hpc
        have HQ1 := Lib.hid hq1
        have HN1 := Lib.hid hl.1
        clear hl hn hlr hpl hpc hq1 HL
        go_wp2_with fail
        refine (Line_any s k _ hs).mono ?_
        rintro e w2 ⟨rfl, h1⟩
        have HB2 := Lib.hid (below_two HB.out h1)
        clear h1 HB
        generalize lineR s (k : Int) = q at *
        go_wp2_with fail
        refine (Place_is s k _ nn 1 HPL.out HPC.out h6).mono ?_
        rintro e w3 ⟨rfl, h1⟩
        have HB3 := Lib.hid (below_two HB2.out h1)
        clear h1 HB2
        by_cases hq : q < s.size
        · have hb := HQ1.out hq
          have hg := get_bt s (q - 1) (by omega)
          rw [hb] at hg
          have hnx := HN.out hq
          have HNX := Lib.hid hnx
          clear hb hnx HQ1 HN
          obtain ⟨p, rfl⟩ : ∃ p, q = p + 1 := ⟨q - 1, by omega⟩
          have hg : ∀ h : p < s.size, ((s[p]'h).toNat : Int) = 10 := fun h => by simpa using hg
          go_wp2
          go_roundw
          case rel => exact ⟨p + 1, jx + 1, nn + 1, by go_num, by go_num, by go_num, by omega, by omega, by omega, Lib.hid fun _ => ⟨by rw [HNX.out.1, ← HN1.out], HNX.out.2⟩, HB3⟩
          case measure => simp [intOf] <;> omega
        · obtain rfl : q = s.size := by omega
          clear HQ1 HN
          go_wp2
          all_goals
            go_roundw
            case rel => exact ⟨s.size, jx + 1, nn + 1, rfl, by go_num, by go_num, by omega, by omega, by omega, Lib.hid fun h => by omega, HB3⟩
            case measure => simp [intOf] <;> omega
      · obtain rfl : k = s.size := by omega
        go_wp2
        go_ret
        exact ⟨rfl, HB.out⟩

set_option maxHeartbeats 1000000 in
set_option maxRecDepth 100000 in
theorem SourceAll_walk (s : ByteArray) (w : World) (hs : s.size ≤ maxLen) :
    Calls Try.prog 6 #[.string s] w fun e w' => e = .returned (.bool true) ∧ Below w.heap.size w w' := by
  have h63 := hs
  unfold maxLen at h63
  go_enter Try.func6, Try.ntmps6
  go_wp2_with fail
  refine (awake_any w).mono ?_
  rintro e w1 ⟨rfl, h1⟩
  have H1 := Lib.hid h1
  clear h1
  by_cases h200 : 200 < s.size
  · go_wp2
    go_ret
    exact ⟨rfl, H1.out⟩
  · go_wp2_with fail
    go_loopw [4, 5] (fun a j wr => ∃ k jx : Nat, a = .int .i64 k ∧ j = .int .i64 jx ∧ jx ≤ k ∧ k ≤ s.size ∧ Hid (Below w.heap.size w wr)) (fun _ j _ => 201 - (intOf j).toNat)
    case atStart => exact ⟨0, 0, rfl, rfl, by omega, by omega, H1⟩
    case round =>
      obtain ⟨k, jx, rfl, rfl, hjk, hks, HB⟩ := hrel
      have h1 := tokA_le s k
      have h2 := tokAB s k
      have h3 := tokB_le s k
      have h4 : k ≤ tokA s k := by have := skip_ge (p := isBlank) (bound_le s k); rw [bound_nat s k hks] at this; rw [tokA, bound_nat s k hks]; exact this
      have h5 : ∀ j, k ≤ j → j < tokA s k → bt s j ≤ 32 := fun j ha hb => by
        have := skip_in (p := isBlank) (bound_le s k) j (by rw [bound_nat s k hks]; exact ha) hb
        simpa [isBlank] using this
      have h6 : ∀ j, tokA s k ≤ j → j < tokB s k → 32 < bt s j := fun j ha hb => by
        have := skip_in (p := notBlank) (tokA_le s k) j ha hb
        simpa [notBlank] using this
      have h7 : tokA s k = tokB s k → tokA s k = s.size := fun he => by
        rcases Nat.lt_or_ge (tokA s k) s.size with hl | hl
        · have ha := skip_at (p := isBlank) (bound_le s k) hl
          have hb := skip_at (p := notBlank) (tokA_le s k) (by show tokB s k < _; omega)
          change isBlank (bt s (tokA s k)) = false at ha
          change notBlank (bt s (tokB s k)) = false at hb
          rw [← he] at hb
          simp [isBlank, notBlank] at ha hb
          omega
        · omega
      have H5 := Lib.hid h5
      have H6 := Lib.hid h6
      have H7 := Lib.hid h7
      clear h5 h6 h7
      go_wp2_with fail
      refine (Token_any s k _ hs).mono ?_
      rintro e w2 ⟨rfl, hb⟩
      have HB2 := Lib.hid (below_two HB.out hb)
      clear hb HB
      generalize tokA s k = a at *
      generalize tokB s k = b at *
      go_wp2
      go_loop [9] (fun x => ∃ m : Nat, x = .int .i64 m ∧ k ≤ m ∧ m ≤ a) (fun x => a - (intOf x).toNat)
      case atStart => exact ⟨k, rfl, by omega, h4⟩
      case round =>
        obtain ⟨m, rfl, hm1, hm2⟩ := hrel
        by_cases hma : m < a
        · have hg := get_bt s m (by omega)
          have hp := H5.out m hm1 hma
          have hr := bt_range s m
          go_wp2
          go_round
          case rel => exact ⟨m + 1, by go_num, by omega, by omega⟩
          case measure => simp [intOf] <;> omega
        · obtain rfl : m = a := by omega
          go_wp2
          go_loop [10] (fun x => ∃ q : Nat, x = .int .i64 q ∧ m ≤ q ∧ q ≤ b) (fun x => b - (intOf x).toNat)
          case atStart => exact ⟨m, rfl, by omega, h2⟩
          case round =>
            obtain ⟨q, rfl, hq1, hq2⟩ := hrel
            by_cases hqb : q < b
            · have hg := get_bt s q (by omega)
              have hp := H6.out q hq1 hqb
              have hr := bt_range s q
              go_wp2
              go_round
              case rel => exact ⟨q + 1, by go_num, by omega, by omega⟩
              case measure => simp [intOf] <;> omega
            · obtain rfl : q = b := by omega
              by_cases hab : m = q
              · obtain rfl := hab
                have he := H7.out rfl
                obtain rfl := he
                have hemp : (s.extract s.size s.size).toList = [] := by rw [ByteArray.toList_eq, ext_list]; simp
                go_wp2
                go_ret
                exact ⟨rfl, HB2.out⟩
              · have hne : ¬ (s.extract m q).toList = [] := by
                  rw [ByteArray.toList_eq, ext_list]
                  intro hc
                  have := congrArg List.length hc
                  rw [List.length_take, List.length_drop, Array.length_toList] at this
                  have hsz : s.data.size = s.size := rfl
                  rw [hsz] at this
                  simp at this
                  omega
                have hne2 : (s.extract m q).toList.isEmpty = false := by rw [List.isEmpty_eq_false_iff]; exact hne
                go_wp2
                go_roundw
                case rel => exact ⟨q, jx + 1, rfl, by go_num, by omega, by omega, HB2⟩
                case measure => simp [intOf] <;> omega
end Go.Proofs.Ytgpcjfogmakfaaa
