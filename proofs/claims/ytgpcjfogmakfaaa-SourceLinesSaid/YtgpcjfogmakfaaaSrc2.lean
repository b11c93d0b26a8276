/- Package source: Until, Line. -/
import Derived.Test.YtgpcjfogmakfaaaSrc
namespace Go.Proofs.Ytgpcjfogmakfaaa
open Go.RowKit

theorem idx_suffix (s : ByteArray) (a : Nat) (c : Int) (w : World) (ha : a ≤ s.size) (h0 : 0 ≤ c) (h1 : c < 256) :
    Calls Try.prog 19 #[.string (s.extract a s.size), .int .u8 c] w fun e w' => e = .returned (.int .i64 (if skip (isNot c) s a < s.size then ((skip (isNot c) s a - a : Nat) : Int) else -1)) ∧ w = w' := by
  refine (strings_IndexByte _ _ _).mono ?_
  rintro e w' ⟨rfl, rfl⟩
  refine ⟨ret_int ?_, rfl⟩
  have e1 : ((c.toNat.toUInt8).toNat : Int) = c := by
    rw [show c.toNat.toUInt8 = UInt8.ofNat c.toNat from rfl, UInt8.toNat_ofNat']
    omega
  have e2 := indexByte_skip s c.toNat.toUInt8 _ a rfl ha
  rw [e1] at e2
  rw [ext_list, List.take_of_length_le (by rw [List.length_drop, Array.length_toList]; exact (by omega : s.size - a ≤ s.size - a)), e2]

set_option maxHeartbeats 400000 in
theorem Line_any (s : ByteArray) (i : Int) (w : World) (hs : s.size ≤ maxLen) :
    Calls Try.prog 13 #[.string s, .int .i64 i] w fun e w' => e = .returned (.int .i64 (lineR s i)) ∧ Below w.heap.size w w' := by
  have h63 := hs
  unfold maxLen at h63
  have hk := bound_le s i
  obtain ⟨k, hk'⟩ : ∃ k, bound s i = k := ⟨_, rfl⟩
  have hl : lineR s i = behind s (skip (isNot 10) s k) := by rw [lineR, hk']
  rw [hl]
  rw [hk'] at hk
  have hge := skip_ge (p := isNot 10) hk
  have hle := skip_le (p := isNot 10) hk
  have HK := Lib.hid hk'
  clear hk' hl
  have hsz : (s.extract k s.size).size = s.size - k := ext_size s k s.size (Nat.le_refl _)
  have HI : ∀ w, Calls Try.prog 19 #[.string (s.extract k s.size), .int .u8 10] w fun e w' => e = .returned (.int .i64 (if skip (isNot 10) s k < s.size then ((skip (isNot 10) s k - k : Nat) : Int) else -1)) ∧ w = w' := fun w => idx_suffix s k 10 w hk (by decide) (by decide)
  generalize skip (isNot 10) s k = m at hge hle HI ⊢
  unfold behind
  by_cases hm : m < s.size
  · simp only [if_pos hm] at HI
    rw [if_pos hm]
    obtain ⟨q, rfl⟩ : ∃ q, m = k + q := ⟨m - k, by omega⟩
    rw [Nat.add_sub_cancel_left] at HI
    have HII := Lib.hid HI
    have HSZ := Lib.hid hsz
    clear HI hsz
    go_enter Try.func13, Try.ntmps13
    go_wp2_with (first | (go_at_call 18; refine (rest_any s i _ hs).mono ?_; rintro e w1 ⟨rfl, hb1⟩; rw [HK.out]; have HB := Lib.hid hb1; clear hb1) | (go_at_call 19; refine (HII.out _).mono ?_; rintro e w' ⟨rfl, rfl⟩))
    go_ret
    exact ⟨ret_int (by omega), HB.out⟩
  · simp only [if_neg hm] at HI
    rw [if_neg hm]
    have HII := Lib.hid HI
    have HSZ := Lib.hid hsz
    clear HI hsz
    go_enter Try.func13, Try.ntmps13
    go_wp2_with (first | (go_at_call 18; refine (rest_any s i _ hs).mono ?_; rintro e w1 ⟨rfl, hb1⟩; rw [HK.out]; have HB := Lib.hid hb1; clear hb1) | (go_at_call 19; refine (HII.out _).mono ?_; rintro e w' ⟨rfl, rfl⟩))
    go_ret
    exact ⟨ret_int (by omega), HB.out⟩

/-- What Until tells. -/
def untilS (s : ByteArray) (i c : Int) : ByteArray := s.extract (untilA s i) (untilB s i c)

set_option maxHeartbeats 1000000 in
theorem Until_any (s : ByteArray) (i c : Int) (w : World) (hs : s.size ≤ maxLen) (hc0 : 0 ≤ c) (hc1 : c < 256) :
    Calls Try.prog 11 #[.string s, .int .i64 i, .int .u8 c] w fun e w' => e = .returned (.tuple #[.string (untilS s i c), .int .i64 (behind s (untilB s i c))]) ∧ Below w.heap.size w w' := by
  have h63 := hs
  unfold maxLen at h63
  have hk := bound_le s i
  have hal := untilA_le s i
  obtain ⟨k, hk'⟩ : ∃ k, bound s i = k := ⟨_, rfl⟩
  obtain ⟨a, ha'⟩ : ∃ a, untilA s i = a := ⟨_, rfl⟩
  have hua : a = if k < s.size ∧ bt s k ≤ 32 then k + 1 else k := by rw [← ha', untilA, hk']
  rw [untilS, untilB, ha']
  rw [hk'] at hk
  rw [ha'] at hal
  have hge := skip_ge (p := isNot c) hal
  have hle := skip_le (p := isNot c) hal
  have HK := Lib.hid hk'
  have HI : ∀ w, Calls Try.prog 19 #[.string (s.extract a s.size), .int .u8 c] w fun e w' => e = .returned (.int .i64 (if skip (isNot c) s a < s.size then ((skip (isNot c) s a - a : Nat) : Int) else -1)) ∧ w = w' := fun w => idx_suffix s a c w hal hc0 hc1
  have hsz : (s.extract k s.size).size = s.size - k := ext_size s k s.size (Nat.le_refl _)
  have hsz2 : (s.extract a s.size).size = s.size - a := ext_size s a s.size (Nat.le_refl _)
  have hcut : ∀ q, q ≤ s.size - a → (s.extract a s.size).extract 0 q = s.extract a (a + q) := fun q hq => by rw [ext_ext _ _ _ _ _ hq, Nat.add_zero]
  have hemp : ((s.extract k s.size).toList = []) ↔ k = s.size := by
    rw [ByteArray.toList_eq, ext_list, List.take_of_length_le (by rw [List.length_drop, Array.length_toList]; exact (by omega : s.size - k ≤ s.size - k)), List.drop_eq_nil_iff, Array.length_toList]
    exact ⟨fun h => Nat.le_antisymm hk h, fun h => by rw [h]; exact Nat.le_refl _⟩
  clear hk' ha'
  generalize skip (isNot c) s a = m at hge hle HI ⊢
  have hfound : (m < s.size ∧ ∃ q, m = a + q ∧ q < s.size - a ∧ (∀ w, Calls Try.prog 19 #[.string (s.extract a s.size), .int .u8 c] w fun e w' => e = .returned (.int .i64 q) ∧ w = w')) ∨ (m = s.size ∧ (∀ w, Calls Try.prog 19 #[.string (s.extract a s.size), .int .u8 c] w fun e w' => e = .returned (.int .i64 (-1)) ∧ w = w')) := by
    by_cases hm : m < s.size
    · refine .inl ⟨hm, m - a, by omega, by omega, ?_⟩
      simpa only [if_pos hm] using HI
    · refine .inr ⟨by omega, ?_⟩
      simpa only [if_neg hm] using HI
  clear HI
  have HF := Lib.hid hfound
  clear hfound
  have hblank : (k < s.size ∧ bt s k ≤ 32 ∧ a = k + 1) ∨ (a = k ∧ (k < s.size → 32 < bt s k)) := by
    by_cases hb : k < s.size ∧ bt s k ≤ 32
    · rw [if_pos hb] at hua
      exact .inl ⟨hb.1, hb.2, hua⟩
    · rw [if_neg hb] at hua
      exact .inr ⟨hua, fun h => by omega⟩
  clear hua
  rcases hblank with ⟨hkl, hbl, rfl⟩ | ⟨rfl, hbl⟩
  · have hne : (s.extract k s.size).toList.isEmpty = false := by
      rw [List.isEmpty_eq_false_iff]; intro h; rw [hemp] at h; omega
    have hne2 : ¬ (s.extract k s.size).toList = [] := by intro h; rw [hemp] at h; omega
    have hgb : ∀ h : 0 < (s.extract k s.size).size, (((s.extract k s.size)[0]'h).toNat : Int) = bt s k := fun h => by rw [get_bt, bt_ext s k s.size 0 (by omega)]; rfl
    have hr := bt_range s k
    have htl : (s.extract k s.size).extract 1 (s.size - k) = s.extract (k + 1) s.size := by
      rw [ext_ext _ _ _ _ _ (Nat.le_refl _)]
      congr 1
      omega
    clear hemp
    go_enter Try.func11, Try.ntmps11
    go_wp2_with fail
    refine (rest_any s i _ hs).mono ?_
    rintro e w1 ⟨rfl, hb1⟩
    rw [HK.out]
    have HB := Lib.hid hb1
    have HC := Lib.hid hcut
    clear hb1 hcut
    rcases HF.out with ⟨hm, q, rfl, hq, hI⟩ | ⟨rfl, hI⟩
    · have hcq := HC.out q (by omega)
      have HI := Lib.hid hI
      clear hI hge hle HC HF
      go_wp2_with (go_at_call 19; refine (HI.out _).mono ?_; rintro e w' ⟨rfl, rfl⟩)
      go_ret2
      exact ⟨ret_str_int rfl (by rw [behind, if_pos hm]; omega), HB.out⟩
    · have HI := Lib.hid hI
      clear hI hge hle HC HF
      go_wp2_with (go_at_call 19; refine (HI.out _).mono ?_; rintro e w' ⟨rfl, rfl⟩)
      go_ret2
      exact ⟨ret_str_int rfl (by rw [behind, if_neg (by omega)]), HB.out⟩
  · have hr := bt_range s a
    have hgb : a < s.size → ∀ h : 0 < (s.extract a s.size).size, (((s.extract a s.size)[0]'h).toNat : Int) = bt s a := fun hk h => by rw [get_bt, bt_ext s a s.size 0 (by omega)]; rfl
    have HGB := Lib.hid hgb
    have HBL := Lib.hid hbl
    have HE := Lib.hid hemp
    have HC := Lib.hid hcut
    have h9 := hk
    clear hgb hbl hemp hcut hal
    by_cases hkl : a < s.size
    all_goals
      (try have hgb := HGB.out hkl)
      (try have hbl := HBL.out hkl)
      (try have hne : (s.extract a s.size).toList.isEmpty = false := by rw [List.isEmpty_eq_false_iff]; intro h; rw [HE.out] at h; omega)
      (try have hne2 : ¬ (s.extract a s.size).toList = [] := by intro h; rw [HE.out] at h; omega)
      (try have hye : (s.extract a s.size).toList.isEmpty = true := by rw [List.isEmpty_iff, HE.out]; omega)
      (try have hye2 : (s.extract a s.size).toList = [] := by rw [HE.out]; omega)
      go_enter Try.func11, Try.ntmps11
      go_wp2_with fail
      refine (rest_any s i _ hs).mono ?_
      rintro e w1 ⟨rfl, hb1⟩
      rw [HK.out]
      have HB := Lib.hid hb1
      clear hb1
      rcases HF.out with ⟨hm, q, rfl, hq, hI⟩ | ⟨rfl, hI⟩
      · have hcq := HC.out q (by omega)
        have HI := Lib.hid hI
        clear hI hge hle HC HF
        go_wp2_with (go_at_call 19; refine (HI.out _).mono ?_; rintro e w' ⟨rfl, rfl⟩)
        all_goals (go_ret2; exact ⟨ret_str_int rfl (by rw [behind, if_pos hm]; omega), HB.out⟩)
      · have HI := Lib.hid hI
        clear hI hge hle HC HF
        go_wp2_with (go_at_call 19; refine (HI.out _).mono ?_; rintro e w' ⟨rfl, rfl⟩)
        go_ret2
        exact ⟨ret_str_int rfl (by rw [behind, if_neg (by omega)]), HB.out⟩
end Go.Proofs.Ytgpcjfogmakfaaa
