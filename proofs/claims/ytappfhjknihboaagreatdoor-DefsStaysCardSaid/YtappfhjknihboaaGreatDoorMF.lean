/-  -/
import Derived.Test.YtappfhjknihboaaGreatDoorRows
import Derived.WalkKit
import Derived.KernelRfl
import Derived.Lib.Strings
import Derived.Lib.Slices
import Derived.Lib.Walk
import Derived.Lib.Bytealg
import Derived.Test.YtappfhjknihboaaGreatDoorMA
import Derived.WalkSpells
import Derived.WalkLawsBesides
import Derived.Handy
import Derived.WalkMore
import Derived.Deep.LoopGhost
import Derived.Lib.Hide

/- strings.IndexByte: the kit's shelf's contracts, turned to this seat. -/
namespace Go.Proofs.YtappfhjknihboaaGreatDoor

set_option maxHeartbeats 1000000 in
set_option maxRecDepth 100000 in
theorem stringslite_IndexByte (s : ByteArray) (c : Int) (w : World) :
    Calls Tryz.prog 134 #[.string s, .int .u8 c] w fun e w' => e = .returned (.int .i64 (Lib.indexByte s.data.toList c.toNat.toUInt8)) ∧ w = w' := by
  go_enter Tryz.func134, Tryz.ntmps134
  go_wp2
  rw [run_callFunc_extern Tryz.func144 (by kernel_rfl) (by kernel_rfl) (by kernel_rfl) (e := Extern.BytealgIndexByte.indexByte) (by kernel_rfl), Lib.run_indexByteString]
  simp only [Result.andThen]
  rw [Oper.upon_value]
  go_wp2
  go_ret
  exact ⟨rfl, rfl⟩

set_option maxHeartbeats 1000000 in
theorem strings_IndexByte (s : ByteArray) (c : Int) (w : World) :
    Calls Tryz.prog 111 #[.string s, .int .u8 c] w fun e w' => e = .returned (.int .i64 (Lib.indexByte s.data.toList c.toNat.toUInt8)) ∧ w = w' := by
  go_enter Tryz.func111, Tryz.ntmps111
  go_wp2_with (go_at_call 134; refine (stringslite_IndexByte _ _ _).mono ?_; rintro e w' ⟨rfl, rfl⟩)
  go_ret
  exact ⟨rfl, rfl⟩
end Go.Proofs.YtappfhjknihboaaGreatDoor


/- Package source: what each call does. -/
namespace Go.Proofs.YtappfhjknihboaaGreatDoor.L06
open Go.RowKit

theorem ret_int {k : IntKind} {a b : Int} (h : a = b) : Ending.returned (.int k a) = .returned (.int k b) := by rw [h]
theorem ret_bool {a b : Bool} (h : a = b) : Ending.returned (.bool a) = .returned (.bool b) := by rw [h]
theorem ret_str_int {k : IntKind} {s t : ByteArray} {a b : Int} (h1 : s = t) (h : a = b) : Ending.returned (.tuple #[.string s, .int k a]) = .returned (.tuple #[.string t, .int k b]) := by rw [h, h1]

set_option maxHeartbeats 400000 in
theorem rest1_any (p q : Addr) (s : ByteArray) (i : Int) (k : Nat) (w : World) (hk : bound s i = k) (hs : s.size ≤ maxLen) (hp : w.cell? p = some (.int .i64 i)) (hq : w.cell? q = some (.string s)) :
    Calls Tryz.prog 133 #[.pointer (some p), .pointer (some q)] w fun e w' => e = .returned (.int .i64 k) ∧ w = w' := by
  unfold maxLen at hs
  have hk' : (k : Int) = if (if i < 0 then 0 else i) ≤ s.size then (if i < 0 then 0 else i) else s.size := by
    rw [← hk]
    unfold bound
    omega
  have HK := Lib.hid hk'
  clear hk hk'
  go_enter Tryz.func133, Tryz.ntmps133
  go_wp2
  all_goals
    go_ret
    have hq := HK.out
    exact ⟨ret_int (by omega), rfl⟩

set_option maxHeartbeats 400000 in
theorem rest_any (s : ByteArray) (i : Int) (w : World) (hs : s.size ≤ maxLen) :
    Calls Tryz.prog 110 #[.string s, .int .i64 i] w fun e w' => e = .returned (.tuple #[.string (s.extract (bound s i) s.size), .int .i64 (bound s i)]) ∧ Below w.heap.size w w' := by
  have hmf : ∀ (fn : Fn) (first cap : Array Value) (w : World), (Instr.makeFunc fn first cap).run Tryz.prog w = .ok (.func fn first cap) w := fun _ _ _ _ => rfl
  have hbd := bound_le s i
  have h63 := hs
  unfold maxLen at h63
  obtain ⟨k, hk⟩ : ∃ k, bound s i = k := ⟨_, rfl⟩
  rw [hk] at hbd ⊢
  have HK := Lib.hid hk
  clear hk
  go_enter Tryz.func110, Tryz.ntmps110
  go_wp2_with fail
  refine (rest1_any _ _ s i k _ HK.out hs (by simp [go_sem]) (by simp [go_sem])).mono ?_
  rintro e w' ⟨rfl, rfl⟩
  go_wp2
  go_ret2
  exact ⟨rfl, ((Below.refl _ _).alloc (Nat.le_refl _) _).alloc (by simp) _⟩

set_option maxHeartbeats 1000000 in
theorem Token_any (s : ByteArray) (i : Int) (w : World) (hs : s.size ≤ maxLen) :
    Calls Tryz.prog 132 #[.string s, .int .i64 i] w fun e w' => e = .returned (.tuple #[.string (s.extract (tokA s i) (tokB s i)), .int .i64 (tokA s i), .int .i64 (tokB s i)]) ∧ Below w.heap.size w w' := by
  have h63 := hs
  unfold maxLen at h63
  go_enter Tryz.func132, Tryz.ntmps132
  go_wp2
  go_step3
  go_wp2_with fail
  refine (rest_any s i _ hs).mono ?_
  rintro e w1 ⟨rfl, hb1⟩
  have HB := Lib.hid hb1
  clear hb1
  go_wp2
  go_loop [8] (fun n => ∃ k : Nat, n = .int .i64 k ∧ k ≤ s.size ∧ Hid (skip isBlank s k = skip isBlank s (bound s i))) (fun n => s.size - (intOf n).toNat)
  case atStart => exact ⟨_, rfl, bound_le _ _, Lib.hid rfl⟩
  case round =>
    obtain ⟨k, rfl, hk, HS⟩ := hrel
    by_cases hc : k < s.size ∧ bt s k ≤ 32
    · obtain ⟨hlt, hp⟩ := hc
      have hg := get_bt s k hlt
      have hr := bt_range s k
      go_wp2
      go_round
      case rel => exact ⟨k + 1, by go_num, by omega, Lib.hid (by rw [← HS.out]; exact (skip_yes hlt (by simp [isBlank, hp])).symm)⟩
      case measure => simp [intOf] <;> omega
    · have HT : Hid (tokA s i = k) := Lib.hid (by
        rw [tokA, ← HS.out]
        by_cases hlt : k < s.size
        · exact skip_no hlt (by simp [isBlank]; omega)
        · exact skip_end hlt)
      have hg := get_bt s k
      have HG := Lib.hid hg
      clear hg
      by_cases hlt : k < s.size
      all_goals
        (try have hg := HG.out hlt)
        have hr := bt_range s k
        (try have hp : ¬ bt s k ≤ 32 := fun h => hc ⟨hlt, h⟩)
        clear hc
        go_wp2
        go_step3
        (try clear hg)
        (try clear hp)
        clear hr HG
        go_wp2
        go_loop [9] (fun n => ∃ m : Nat, n = .int .i64 m ∧ k ≤ m ∧ m ≤ s.size ∧ Hid (skip notBlank s m = skip notBlank s k)) (fun n => s.size - (intOf n).toNat)
        case atStart => exact ⟨_, rfl, Nat.le_refl _, hk, Lib.hid rfl⟩
        case round =>
          obtain ⟨m, rfl, hm1, hm2, HM⟩ := hrel
          by_cases hlt2 : m < s.size
          · have hg := get_bt s m hlt2
            have hr := bt_range s m
            by_cases hp2 : bt s m ≤ 32
            · have HB2 : Hid (tokB s i = m) := Lib.hid (by rw [tokB, HT.out, ← HM.out]; exact skip_no hlt2 (by simp [notBlank]; omega))
              go_wp2
              go_ret3
              rw [HT.out, HB2.out]
              exact ⟨rfl, HB.out⟩
            · go_wp2
              go_round
              case rel => exact ⟨m + 1, by go_num, by omega, by omega, Lib.hid (by rw [← HM.out]; exact (skip_yes hlt2 (by simp [notBlank]; omega)).symm)⟩
              case measure => simp [intOf] <;> omega
          · have HB2 : Hid (tokB s i = m) := Lib.hid (by rw [tokB, HT.out, ← HM.out]; exact skip_end hlt2)
            go_wp2
            go_ret3
            rw [HT.out, HB2.out]
            exact ⟨rfl, HB.out⟩
end Go.Proofs.YtappfhjknihboaaGreatDoor.L06


/- Package source: Until, Line. -/
namespace Go.Proofs.YtappfhjknihboaaGreatDoor.L06
open Go.RowKit

theorem idx_suffix (s : ByteArray) (a : Nat) (c : Int) (w : World) (ha : a ≤ s.size) (h0 : 0 ≤ c) (h1 : c < 256) :
    Calls Tryz.prog 111 #[.string (s.extract a s.size), .int .u8 c] w fun e w' => e = .returned (.int .i64 (if skip (isNot c) s a < s.size then ((skip (isNot c) s a - a : Nat) : Int) else -1)) ∧ w = w' := by
  refine (strings_IndexByte _ _ _).mono ?_
  rintro e w' ⟨rfl, rfl⟩
  refine ⟨ret_int ?_, rfl⟩
  have e1 : ((c.toNat.toUInt8).toNat : Int) = c := by
    rw [show c.toNat.toUInt8 = UInt8.ofNat c.toNat from rfl, UInt8.toNat_ofNat']
    omega
  have e2 := indexByte_skip s c.toNat.toUInt8 _ a rfl ha
  rw [e1] at e2
  rw [ext_list, List.take_of_length_le (by rw [List.length_drop, Array.length_toList]; exact (by omega : s.size - a ≤ s.size - a)), e2]

set_option maxHeartbeats 400000 in
theorem Line_any (s : ByteArray) (i : Int) (w : World) (hs : s.size ≤ maxLen) :
    Calls Tryz.prog 74 #[.string s, .int .i64 i] w fun e w' => e = .returned (.int .i64 (lineR s i)) ∧ Below w.heap.size w w' := by
  have h63 := hs
  unfold maxLen at h63
  have hk := bound_le s i
  obtain ⟨k, hk'⟩ : ∃ k, bound s i = k := ⟨_, rfl⟩
  have hl : lineR s i = behind s (skip (isNot 10) s k) := by rw [lineR, hk']
  rw [hl]
  rw [hk'] at hk
  have hge := skip_ge (p := isNot 10) hk
  have hle := skip_le (p := isNot 10) hk
  have HK := Lib.hid hk'
  clear hk' hl
  have hsz : (s.extract k s.size).size = s.size - k := ext_size s k s.size (Nat.le_refl _)
  have HI : ∀ w, Calls Tryz.prog 111 #[.string (s.extract k s.size), .int .u8 10] w fun e w' => e = .returned (.int .i64 (if skip (isNot 10) s k < s.size then ((skip (isNot 10) s k - k : Nat) : Int) else -1)) ∧ w = w' := fun w => idx_suffix s k 10 w hk (by decide) (by decide)
  generalize skip (isNot 10) s k = m at hge hle HI ⊢
  unfold behind
  by_cases hm : m < s.size
  · simp only [if_pos hm] at HI
    rw [if_pos hm]
    obtain ⟨q, rfl⟩ : ∃ q, m = k + q := ⟨m - k, by omega⟩
    rw [Nat.add_sub_cancel_left] at HI
    have HII := Lib.hid HI
    have HSZ := Lib.hid hsz
    clear HI hsz
    go_enter Tryz.func74, Tryz.ntmps74
    go_wp2_with (first | (go_at_call 110; refine (rest_any s i _ hs).mono ?_; rintro e w1 ⟨rfl, hb1⟩; rw [HK.out]; have HB := Lib.hid hb1; clear hb1) | (go_at_call 111; refine (HII.out _).mono ?_; rintro e w' ⟨rfl, rfl⟩))
    go_ret
    exact ⟨ret_int (by omega), HB.out⟩
  · simp only [if_neg hm] at HI
    rw [if_neg hm]
    have HII := Lib.hid HI
    have HSZ := Lib.hid hsz
    clear HI hsz
    go_enter Tryz.func74, Tryz.ntmps74
    go_wp2_with (first | (go_at_call 110; refine (rest_any s i _ hs).mono ?_; rintro e w1 ⟨rfl, hb1⟩; rw [HK.out]; have HB := Lib.hid hb1; clear hb1) | (go_at_call 111; refine (HII.out _).mono ?_; rintro e w' ⟨rfl, rfl⟩))
    go_ret
    exact ⟨ret_int (by omega), HB.out⟩

/-- What Until tells. -/
def untilS (s : ByteArray) (i c : Int) : ByteArray := s.extract (untilA s i) (untilB s i c)

set_option maxHeartbeats 1000000 in
theorem Until_any (s : ByteArray) (i c : Int) (w : World) (hs : s.size ≤ maxLen) (hc0 : 0 ≤ c) (hc1 : c < 256) :
    Calls Tryz.prog 72 #[.string s, .int .i64 i, .int .u8 c] w fun e w' => e = .returned (.tuple #[.string (untilS s i c), .int .i64 (behind s (untilB s i c))]) ∧ Below w.heap.size w w' := by
  have h63 := hs
  unfold maxLen at h63
  have hk := bound_le s i
  have hal := untilA_le s i
  obtain ⟨k, hk'⟩ : ∃ k, bound s i = k := ⟨_, rfl⟩
  obtain ⟨a, ha'⟩ : ∃ a, untilA s i = a := ⟨_, rfl⟩
  have hua : a = if k < s.size ∧ bt s k ≤ 32 then k + 1 else k := by rw [← ha', untilA, hk']
  rw [untilS, untilB, ha']
  rw [hk'] at hk
  rw [ha'] at hal
  have hge := skip_ge (p := isNot c) hal
  have hle := skip_le (p := isNot c) hal
  have HK := Lib.hid hk'
  have HI : ∀ w, Calls Tryz.prog 111 #[.string (s.extract a s.size), .int .u8 c] w fun e w' => e = .returned (.int .i64 (if skip (isNot c) s a < s.size then ((skip (isNot c) s a - a : Nat) : Int) else -1)) ∧ w = w' := fun w => idx_suffix s a c w hal hc0 hc1
  have hsz : (s.extract k s.size).size = s.size - k := ext_size s k s.size (Nat.le_refl _)
  have hsz2 : (s.extract a s.size).size = s.size - a := ext_size s a s.size (Nat.le_refl _)
  have hcut : ∀ q, q ≤ s.size - a → (s.extract a s.size).extract 0 q = s.extract a (a + q) := fun q hq => by rw [ext_ext _ _ _ _ _ hq, Nat.add_zero]
  have hemp : ((s.extract k s.size).toList = []) ↔ k = s.size := by
    rw [ByteArray.toList_eq, ext_list, List.take_of_length_le (by rw [List.length_drop, Array.length_toList]; exact (by omega : s.size - k ≤ s.size - k)), List.drop_eq_nil_iff, Array.length_toList]
    exact ⟨fun h => Nat.le_antisymm hk h, fun h => by rw [h]; exact Nat.le_refl _⟩
  clear hk' ha'
  generalize skip (isNot c) s a = m at hge hle HI ⊢
  have hfound : (m < s.size ∧ ∃ q, m = a + q ∧ q < s.size - a ∧ (∀ w, Calls Tryz.prog 111 #[.string (s.extract a s.size), .int .u8 c] w fun e w' => e = .returned (.int .i64 q) ∧ w = w')) ∨ (m = s.size ∧ (∀ w, Calls Tryz.prog 111 #[.string (s.extract a s.size), .int .u8 c] w fun e w' => e = .returned (.int .i64 (-1)) ∧ w = w')) := by
    by_cases hm : m < s.size
    · refine .inl ⟨hm, m - a, by omega, by omega, ?_⟩
      simpa only [if_pos hm] using HI
    · refine .inr ⟨by omega, ?_⟩
      simpa only [if_neg hm] using HI
  clear HI
  have HF := Lib.hid hfound
  clear hfound
  have hblank : (k < s.size ∧ bt s k ≤ 32 ∧ a = k + 1) ∨ (a = k ∧ (k < s.size → 32 < bt s k)) := by
    by_cases hb : k < s.size ∧ bt s k ≤ 32
    · rw [if_pos hb] at hua
      exact .inl ⟨hb.1, hb.2, hua⟩
    · rw [if_neg hb] at hua
      exact .inr ⟨hua, fun h => by omega⟩
  clear hua
  rcases hblank with ⟨hkl, hbl, rfl⟩ | ⟨rfl, hbl⟩
  · have hne : (s.extract k s.size).toList.isEmpty = false := by
      rw [List.isEmpty_eq_false_iff]; intro h; rw [hemp] at h; omega
    have hne2 : ¬ (s.extract k s.size).toList = [] := by intro h; rw [hemp] at h; omega
    have hgb : ∀ h : 0 < (s.extract k s.size).size, (((s.extract k s.size)[0]'h).toNat : Int) = bt s k := fun h => by rw [get_bt, bt_ext s k s.size 0 (by omega)]; rfl
    have hr := bt_range s k
    have htl : (s.extract k s.size).extract 1 (s.size - k) = s.extract (k + 1) s.size := by
      rw [ext_ext _ _ _ _ _ (Nat.le_refl _)]
      congr 1
      omega
    clear hemp
    go_enter Tryz.func72, Tryz.ntmps72
    go_wp2_with fail
    refine (rest_any s i _ hs).mono ?_
    rintro e w1 ⟨rfl, hb1⟩
    rw [HK.out]
    have HB := Lib.hid hb1
    have HC := Lib.hid hcut
    clear hb1 hcut
    rcases HF.out with ⟨hm, q, rfl, hq, hI⟩ | ⟨rfl, hI⟩
    · have hcq := HC.out q (by omega)
      have HI := Lib.hid hI
      clear hI hge hle HC HF
      go_wp2_with (go_at_call 111; refine (HI.out _).mono ?_; rintro e w' ⟨rfl, rfl⟩)
      go_ret2
      exact ⟨ret_str_int rfl (by rw [behind, if_pos hm]; omega), HB.out⟩
    · have HI := Lib.hid hI
      clear hI hge hle HC HF
      go_wp2_with (go_at_call 111; refine (HI.out _).mono ?_; rintro e w' ⟨rfl, rfl⟩)
      go_ret2
      exact ⟨ret_str_int rfl (by rw [behind, if_neg (by omega)]), HB.out⟩
  · have hr := bt_range s a
    have hgb : a < s.size → ∀ h : 0 < (s.extract a s.size).size, (((s.extract a s.size)[0]'h).toNat : Int) = bt s a := fun hk h => by rw [get_bt, bt_ext s a s.size 0 (by omega)]; rfl
    have HGB := Lib.hid hgb
    have HBL := Lib.hid hbl
    have HE := Lib.hid hemp
    have HC := Lib.hid hcut
    have h9 := hk
    clear hgb hbl hemp hcut hal
    by_cases hkl : a < s.size
    all_goals
      (try have hgb := HGB.out hkl)
      (try have hbl := HBL.out hkl)
      (try have hne : (s.extract a s.size).toList.isEmpty = false := by rw [List.isEmpty_eq_false_iff]; intro h; rw [HE.out] at h; omega)
      (try have hne2 : ¬ (s.extract a s.size).toList = [] := by intro h; rw [HE.out] at h; omega)
      (try have hye : (s.extract a s.size).toList.isEmpty = true := by rw [List.isEmpty_iff, HE.out]; omega)
      (try have hye2 : (s.extract a s.size).toList = [] := by rw [HE.out]; omega)
      go_enter Tryz.func72, Tryz.ntmps72
      go_wp2_with fail
      refine (rest_any s i _ hs).mono ?_
      rintro e w1 ⟨rfl, hb1⟩
      rw [HK.out]
      have HB := Lib.hid hb1
      clear hb1
      rcases HF.out with ⟨hm, q, rfl, hq, hI⟩ | ⟨rfl, hI⟩
      · have hcq := HC.out q (by omega)
        have HI := Lib.hid hI
        clear hI hge hle HC HF
        go_wp2_with (go_at_call 111; refine (HI.out _).mono ?_; rintro e w' ⟨rfl, rfl⟩)
        all_goals (go_ret2; exact ⟨ret_str_int rfl (by rw [behind, if_pos hm]; omega), HB.out⟩)
      · have HI := Lib.hid hI
        clear hI hge hle HC HF
        go_wp2_with (go_at_call 111; refine (HI.out _).mono ?_; rintro e w' ⟨rfl, rfl⟩)
        go_ret2
        exact ⟨ret_str_int rfl (by rw [behind, if_neg (by omega)]), HB.out⟩
end Go.Proofs.YtappfhjknihboaaGreatDoor.L06


/- Package source: Place. -/
namespace Go.Proofs.YtappfhjknihboaaGreatDoor.L06
open Go.RowKit

theorem width_pos (s : ByteArray) (pos : Nat) (h : pos < s.size) : 1 ≤ (Utf8.decode s pos).2 := by
  by_cases ha : (s[pos]'h).toNat < 128
  · rw [decode_ascii s pos h ha]
    exact Nat.le_refl _
  · exact (decode_high s pos h (by omega)).2
/-- A letter's bytes behind its first one are no line feeds. -/
theorem line_skip (s : ByteArray) (n pos : Nat) : ∀ m, pos + 1 + m ≤ pos + (Utf8.decode s pos).2 → lineOf s (min (pos + 1 + m) n) = lineOf s (min (pos + 1) n) ∧ beginOf s (min (pos + 1 + m) n) = beginOf s (min (pos + 1) n)
  | 0, _ => ⟨rfl, rfl⟩
  | m + 1, h => by
    have ih := line_skip s n pos m (by omega)
    have hd := decode_tail s pos (pos + 1 + m) (by omega) (by omega)
    by_cases hn : pos + 1 + m < n
    · have e : min (pos + 1 + (m + 1)) n = (pos + 1 + m) + 1 := by omega
      have e2 : min (pos + 1 + m) n = pos + 1 + m := by omega
      rw [e, lineOf, beginOf, if_neg (by omega), if_neg (by omega), ← e2]
      exact ih
    · have e : min (pos + 1 + (m + 1)) n = min (pos + 1 + m) n := by omega
      rw [e]
      exact ih

theorem width_le (s : ByteArray) (pos : Nat) (h : pos < s.size) : pos + (Utf8.decode s pos).2 ≤ s.size := by
  by_cases hw : (Utf8.decode s pos).2 ≤ 1
  · omega
  · have := (decode_tail s pos (pos + (Utf8.decode s pos).2 - 1) (by omega) (by omega)).1
    omega
theorem line_step (s : ByteArray) (n pos : Nat) (h : pos < s.size) :
    lineOf s (min (pos + (Utf8.decode s pos).2) n) = (if pos < n ∧ bt s pos = 10 then lineOf s (min pos n) + 1 else lineOf s (min pos n)) ∧
    beginOf s (min (pos + (Utf8.decode s pos).2) n) = (if pos < n ∧ bt s pos = 10 then pos + 1 else beginOf s (min pos n)) := by
  have hw := width_pos s pos h
  have hs := line_skip s n pos ((Utf8.decode s pos).2 - 1) (by omega)
  rw [show pos + 1 + ((Utf8.decode s pos).2 - 1) = pos + (Utf8.decode s pos).2 by omega] at hs
  rw [hs.1, hs.2]
  by_cases hn : pos < n
  · rw [show min (pos + 1) n = pos + 1 by omega, show min pos n = pos by omega, lineOf, beginOf]
    by_cases hb : bt s pos = 10
    · rw [if_pos hb, if_pos hb, if_pos ⟨hn, hb⟩, if_pos ⟨hn, hb⟩]
      exact ⟨rfl, rfl⟩
    · rw [if_neg hb, if_neg hb, if_neg (fun h => hb h.2), if_neg (fun h => hb h.2)]
      exact ⟨rfl, rfl⟩
  · rw [if_neg (fun h => hn h.1), if_neg (fun h => hn h.1), show min (pos + 1) n = min pos n by omega]
    exact ⟨rfl, rfl⟩

/-- A place's column. -/
def colOf (s : ByteArray) (n : Nat) : Int := (n : Int) - beginOf s n + 1

end Go.Proofs.YtappfhjknihboaaGreatDoor.L06


/- Package nostosref06: the same as package source. -/
namespace Go.Proofs.YtappfhjknihboaaGreatDoor.L06
open Go.RowKit

set_option maxHeartbeats 400000 in
theorem RBound_any (s : ByteArray) (i : Int) (w : World) (hs : s.size ≤ maxLen) :
    Calls Tryz.prog 117 #[.string s, .int .i64 i] w fun e w' => e = .returned (.int .i64 (bound s i)) ∧ w = w' := by
  unfold maxLen at hs
  go_enter Tryz.func117, Tryz.ntmps117
  go_wp2
  all_goals
    go_ret
    exact ⟨ret_int (by unfold bound; omega), rfl⟩

set_option maxHeartbeats 1000000 in
theorem RToken_any (s : ByteArray) (i : Int) (w : World) (hs : s.size ≤ maxLen) :
    Calls Tryz.prog 116 #[.string s, .int .i64 i] w fun e w' => e = .returned (.tuple #[.string (s.extract (tokA s i) (tokB s i)), .int .i64 (tokA s i), .int .i64 (tokB s i)]) ∧ w = w' := by
  have h63 := hs
  unfold maxLen at h63
  go_enter Tryz.func116, Tryz.ntmps116
  go_wp2_with (go_at_call 117; refine (RBound_any s i _ hs).mono ?_; rintro e w' ⟨rfl, rfl⟩)
  go_loop [7] (fun n => ∃ k : Nat, n = .int .i64 k ∧ k ≤ s.size ∧ Hid (skip isBlank s k = skip isBlank s (bound s i))) (fun n => s.size - (intOf n).toNat)
  case atStart => exact ⟨_, rfl, bound_le _ _, Lib.hid rfl⟩
  case round =>
    obtain ⟨k, rfl, hk, HS⟩ := hrel
    by_cases hc : k < s.size ∧ bt s k ≤ 32
    · obtain ⟨hlt, hp⟩ := hc
      have hg := get_bt s k hlt
      have hr := bt_range s k
      go_wp2
      go_round
      case rel => exact ⟨k + 1, by go_num, by omega, Lib.hid (by rw [← HS.out]; exact (skip_yes hlt (by simp [isBlank, hp])).symm)⟩
      case measure => simp [intOf] <;> omega
    · have HT : Hid (tokA s i = k) := Lib.hid (by
        rw [tokA, ← HS.out]
        by_cases hlt : k < s.size
        · exact skip_no hlt (by simp [isBlank]; omega)
        · exact skip_end hlt)
      have hg := get_bt s k
      have HG := Lib.hid hg
      clear hg
      by_cases hlt : k < s.size
      all_goals
        (try have hg := HG.out hlt)
        have hr := bt_range s k
        (try have hp : ¬ bt s k ≤ 32 := fun h => hc ⟨hlt, h⟩)
        clear hc
        go_wp2
        (try clear hg)
        (try clear hp)
        clear hr HG
        go_loop [8] (fun n => ∃ m : Nat, n = .int .i64 m ∧ k ≤ m ∧ m ≤ s.size ∧ Hid (skip notBlank s m = skip notBlank s k)) (fun n => s.size - (intOf n).toNat)
        case atStart => exact ⟨_, rfl, Nat.le_refl _, hk, Lib.hid rfl⟩
        case round =>
          obtain ⟨m, rfl, hm1, hm2, HM⟩ := hrel
          by_cases hlt2 : m < s.size
          · have hg := get_bt s m hlt2
            have hr := bt_range s m
            by_cases hp2 : bt s m ≤ 32
            · have HB2 : Hid (tokB s i = m) := Lib.hid (by rw [tokB, HT.out, ← HM.out]; exact skip_no hlt2 (by simp [notBlank]; omega))
              go_wp2
              all_goals (go_ret3; rw [HT.out, HB2.out]; (try exact ⟨rfl, rfl⟩))
            · go_wp2
              all_goals
                go_round
                case rel => exact ⟨m + 1, by go_num, by omega, by omega, Lib.hid (by rw [← HM.out]; exact (skip_yes hlt2 (by simp [notBlank]; omega)).symm)⟩
                case measure => simp [intOf] <;> omega
          · have HB2 : Hid (tokB s i = m) := Lib.hid (by rw [tokB, HT.out, ← HM.out]; exact skip_end hlt2)
            go_wp2
            all_goals (go_ret3; rw [HT.out, HB2.out]; (try exact ⟨rfl, rfl⟩))
set_option maxHeartbeats 1000000 in
theorem RUntil_any (s : ByteArray) (i c : Int) (w : World) (hs : s.size ≤ maxLen) (hc0 : 0 ≤ c) (hc1 : c < 256) :
    Calls Tryz.prog 85 #[.string s, .int .i64 i, .int .u8 c] w fun e w' => e = .returned (.tuple #[.string (untilS s i c), .int .i64 (behind s (untilB s i c))]) ∧ w = w' := by
  have h63 := hs
  unfold maxLen at h63
  have hk := bound_le s i
  have hal := untilA_le s i
  obtain ⟨k, hk'⟩ : ∃ k, bound s i = k := ⟨_, rfl⟩
  obtain ⟨a, ha'⟩ : ∃ a, untilA s i = a := ⟨_, rfl⟩
  have hua : a = if k < s.size ∧ bt s k ≤ 32 then k + 1 else k := by rw [← ha', untilA, hk']
  rw [untilS, untilB, ha']
  rw [hk'] at hk
  rw [ha'] at hal
  have HK := Lib.hid hk'
  have hr := bt_range s k
  clear hk' ha'
  by_cases hc : k < s.size ∧ bt s k ≤ 32
  · rw [if_pos hc] at hua
    subst hua
    obtain ⟨hlt, hp⟩ := hc
    have hg := get_bt s k hlt
    go_enter Tryz.func85, Tryz.ntmps85
    go_wp2_with (go_at_call 117; refine (RBound_any s i _ hs).mono ?_; rintro e w' ⟨rfl, rfl⟩; rw [HK.out])
    (try clear hg)
    clear hr
    go_loop [9] (fun n => ∃ m : Nat, n = .int .i64 m ∧ k + 1 ≤ m ∧ m ≤ s.size ∧ Hid (skip (isNot c) s m = skip (isNot c) s (k + 1))) (fun n => s.size - (intOf n).toNat)
    case atStart => exact ⟨k + 1, by go_num, Nat.le_refl _, hal, Lib.hid rfl⟩
    case round =>
      obtain ⟨m, rfl, hm1, hm2, HM⟩ := hrel
      by_cases hlt2 : m < s.size
      · have hg := get_bt s m hlt2
        have hr := bt_range s m
        by_cases hp2 : bt s m = c
        · subst hp2
          have hsk := HM.out
          rw [skip_no hlt2 (by simp [isNot])] at hsk
          have HSK := Lib.hid hsk
          clear hsk
          go_wp2
          go_ret2
          exact ⟨ret_str_int (by rw [← HSK.out]) (by rw [← HSK.out, behind, if_pos hlt2]; omega), rfl⟩
        · have hb2 : (bt s m == c) = false := by simpa using hp2
          clear hp2
          go_wp2
          go_round
          case rel => exact ⟨m + 1, by go_num, by omega, by omega, Lib.hid (by rw [← HM.out]; exact (skip_yes hlt2 (by rw [isNot, hb2]; rfl)).symm)⟩
          case measure => simp [intOf] <;> omega
      · have hsk := HM.out
        rw [skip_end hlt2] at hsk
        obtain rfl : m = s.size := by omega
        have HSK := Lib.hid hsk
        clear hsk
        go_wp2
        go_ret2
        exact ⟨ret_str_int (by rw [← HSK.out]) (by rw [← HSK.out, behind, if_neg (by omega)]), rfl⟩
  · rw [if_neg hc] at hua
    subst hua
    have hp : a < s.size → 32 < bt s a := fun h => by omega
    clear hc
    by_cases hlt : a < s.size
    · have hp := hp hlt
      have hg := get_bt s a hlt
      go_enter Tryz.func85, Tryz.ntmps85
      go_wp2_with (go_at_call 117; refine (RBound_any s i _ hs).mono ?_; rintro e w' ⟨rfl, rfl⟩; rw [HK.out])
      (try clear hg)
      clear hr
      go_loop [9] (fun n => ∃ m : Nat, n = .int .i64 m ∧ a ≤ m ∧ m ≤ s.size ∧ Hid (skip (isNot c) s m = skip (isNot c) s (a))) (fun n => s.size - (intOf n).toNat)
      case atStart => exact ⟨a, by go_num, Nat.le_refl _, hal, Lib.hid rfl⟩
      case round =>
        obtain ⟨m, rfl, hm1, hm2, HM⟩ := hrel
        by_cases hlt2 : m < s.size
        · have hg := get_bt s m hlt2
          have hr := bt_range s m
          by_cases hp2 : bt s m = c
          · subst hp2
            have hsk := HM.out
            rw [skip_no hlt2 (by simp [isNot])] at hsk
            have HSK := Lib.hid hsk
            clear hsk
            go_wp2
            go_ret2
            exact ⟨ret_str_int (by rw [← HSK.out]) (by rw [← HSK.out, behind, if_pos hlt2]; omega), rfl⟩
          · have hb2 : (bt s m == c) = false := by simpa using hp2
            clear hp2
            go_wp2
            go_round
            case rel => exact ⟨m + 1, by go_num, by omega, by omega, Lib.hid (by rw [← HM.out]; exact (skip_yes hlt2 (by rw [isNot, hb2]; rfl)).symm)⟩
            case measure => simp [intOf] <;> omega
        · have hsk := HM.out
          rw [skip_end hlt2] at hsk
          obtain rfl : m = s.size := by omega
          have HSK := Lib.hid hsk
          clear hsk
          go_wp2
          go_ret2
          exact ⟨ret_str_int (by rw [← HSK.out]) (by rw [← HSK.out, behind, if_neg (by omega)]), rfl⟩
    · clear hp
      go_enter Tryz.func85, Tryz.ntmps85
      go_wp2_with (go_at_call 117; refine (RBound_any s i _ hs).mono ?_; rintro e w' ⟨rfl, rfl⟩; rw [HK.out])
      (try clear hg)
      clear hr
      go_loop [9] (fun n => ∃ m : Nat, n = .int .i64 m ∧ a ≤ m ∧ m ≤ s.size ∧ Hid (skip (isNot c) s m = skip (isNot c) s (a))) (fun n => s.size - (intOf n).toNat)
      case atStart => exact ⟨a, by go_num, Nat.le_refl _, hal, Lib.hid rfl⟩
      case round =>
        obtain ⟨m, rfl, hm1, hm2, HM⟩ := hrel
        by_cases hlt2 : m < s.size
        · have hg := get_bt s m hlt2
          have hr := bt_range s m
          by_cases hp2 : bt s m = c
          · subst hp2
            have hsk := HM.out
            rw [skip_no hlt2 (by simp [isNot])] at hsk
            have HSK := Lib.hid hsk
            clear hsk
            go_wp2
            go_ret2
            exact ⟨ret_str_int (by rw [← HSK.out]) (by rw [← HSK.out, behind, if_pos hlt2]; omega), rfl⟩
          · have hb2 : (bt s m == c) = false := by simpa using hp2
            clear hp2
            go_wp2
            go_round
            case rel => exact ⟨m + 1, by go_num, by omega, by omega, Lib.hid (by rw [← HM.out]; exact (skip_yes hlt2 (by rw [isNot, hb2]; rfl)).symm)⟩
            case measure => simp [intOf] <;> omega
        · have hsk := HM.out
          rw [skip_end hlt2] at hsk
          obtain rfl : m = s.size := by omega
          have HSK := Lib.hid hsk
          clear hsk
          go_wp2
          go_ret2
          exact ⟨ret_str_int (by rw [← HSK.out]) (by rw [← HSK.out, behind, if_neg (by omega)]), rfl⟩

set_option maxHeartbeats 1000000 in
theorem RLine_any (s : ByteArray) (i : Int) (w : World) (hs : s.size ≤ maxLen) :
    Calls Tryz.prog 86 #[.string s, .int .i64 i] w fun e w' => e = .returned (.int .i64 (lineR s i)) ∧ w = w' := by
  have h63 := hs
  unfold maxLen at h63
  go_enter Tryz.func86, Tryz.ntmps86
  go_wp2_with (go_at_call 117; refine (RBound_any s i _ hs).mono ?_; rintro e w' ⟨rfl, rfl⟩)
  go_loop [5] (fun n => ∃ m : Nat, n = .int .i64 m ∧ m ≤ s.size ∧ Hid (skip (isNot 10) s m = skip (isNot 10) s (bound s i))) (fun n => s.size - (intOf n).toNat)
  case atStart => exact ⟨_, rfl, bound_le _ _, Lib.hid rfl⟩
  case round =>
    obtain ⟨m, rfl, hm2, HM⟩ := hrel
    by_cases hlt2 : m < s.size
    · have hg := get_bt s m hlt2
      have hr := bt_range s m
      by_cases hp2 : bt s m = 10
      · have hsk := HM.out
        rw [skip_no hlt2 (by simp [isNot, hp2])] at hsk
        have HSK := Lib.hid hsk
        rw [hp2] at hg
        clear hsk hp2
        go_wp2
        go_ret
        exact ⟨ret_int (by rw [lineR, ← HSK.out, behind, if_pos hlt2]; omega), rfl⟩
      · have hb2 : (bt s m == 10) = false := by simpa using hp2
        clear hp2
        go_wp2
        go_round
        case rel => exact ⟨m + 1, by go_num, by omega, Lib.hid (by rw [← HM.out]; exact (skip_yes hlt2 (by rw [isNot, hb2]; rfl)).symm)⟩
        case measure => simp [intOf] <;> omega
    · have hsk := HM.out
      rw [skip_end hlt2] at hsk
      obtain rfl : m = s.size := by omega
      have HSK := Lib.hid hsk
      clear hsk
      go_wp2
      go_ret
      exact ⟨ret_int (by rw [lineR, ← HSK.out, behind, if_neg (by omega)]), rfl⟩
end Go.Proofs.YtappfhjknihboaaGreatDoor.L06
