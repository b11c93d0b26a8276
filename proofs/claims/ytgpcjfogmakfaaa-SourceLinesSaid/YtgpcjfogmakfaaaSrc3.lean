/- Package source: Place. -/
import Derived.Test.YtgpcjfogmakfaaaSrc2
namespace Go.Proofs.Ytgpcjfogmakfaaa
open Go.RowKit

theorem width_pos (s : ByteArray) (pos : Nat) (h : pos < s.size) : 1 ≤ (Utf8.decode s pos).2 := by
  by_cases ha : (s[pos]'h).toNat < 128
  · rw [decode_ascii s pos h ha]
    exact Nat.le_refl _
  · exact (decode_high s pos h (by omega)).2
/-- A letter's bytes behind its first one are no line feeds. -/
theorem line_skip (s : ByteArray) (n pos : Nat) : ∀ m, pos + 1 + m ≤ pos + (Utf8.decode s pos).2 → lineOf s (min (pos + 1 + m) n) = lineOf s (min (pos + 1) n) ∧ beginOf s (min (pos + 1 + m) n) = beginOf s (min (pos + 1) n)
  | 0, _ => ⟨rfl, rfl⟩
  | m + 1, h => by
    have ih := line_skip s n pos m (by omega)
    have hd := decode_tail s pos (pos + 1 + m) (by omega) (by omega)
    by_cases hn : pos + 1 + m < n
    · have e : min (pos + 1 + (m + 1)) n = (pos + 1 + m) + 1 := by omega
      have e2 : min (pos + 1 + m) n = pos + 1 + m := by omega
      rw [e, lineOf, beginOf, if_neg (by omega), if_neg (by omega), ← e2]
      exact ih
    · have e : min (pos + 1 + (m + 1)) n = min (pos + 1 + m) n := by omega
      rw [e]
      exact ih

theorem width_le (s : ByteArray) (pos : Nat) (h : pos < s.size) : pos + (Utf8.decode s pos).2 ≤ s.size := by
  by_cases hw : (Utf8.decode s pos).2 ≤ 1
  · omega
  · have := (decode_tail s pos (pos + (Utf8.decode s pos).2 - 1) (by omega) (by omega)).1
    omega
theorem line_step (s : ByteArray) (n pos : Nat) (h : pos < s.size) :
    lineOf s (min (pos + (Utf8.decode s pos).2) n) = (if pos < n ∧ bt s pos = 10 then lineOf s (min pos n) + 1 else lineOf s (min pos n)) ∧
    beginOf s (min (pos + (Utf8.decode s pos).2) n) = (if pos < n ∧ bt s pos = 10 then pos + 1 else beginOf s (min pos n)) := by
  have hw := width_pos s pos h
  have hs := line_skip s n pos ((Utf8.decode s pos).2 - 1) (by omega)
  rw [show pos + 1 + ((Utf8.decode s pos).2 - 1) = pos + (Utf8.decode s pos).2 by omega] at hs
  rw [hs.1, hs.2]
  by_cases hn : pos < n
  · rw [show min (pos + 1) n = pos + 1 by omega, show min pos n = pos by omega, lineOf, beginOf]
    by_cases hb : bt s pos = 10
    · rw [if_pos hb, if_pos hb, if_pos ⟨hn, hb⟩, if_pos ⟨hn, hb⟩]
      exact ⟨rfl, rfl⟩
    · rw [if_neg hb, if_neg hb, if_neg (fun h => hb h.2), if_neg (fun h => hb h.2)]
      exact ⟨rfl, rfl⟩
  · rw [if_neg (fun h => hn h.1), if_neg (fun h => hn h.1), show min (pos + 1) n = min pos n by omega]
    exact ⟨rfl, rfl⟩

/-- A place's column. -/
def colOf (s : ByteArray) (n : Nat) : Int := (n : Int) - beginOf s n + 1

set_option maxHeartbeats 1000000 in
theorem Place_any (s : ByteArray) (i : Int) (w : World) (h63 : s.size ≤ 1000000) :
    Calls Try.prog 15 #[.string s, .int .i64 i] w fun e w' => e = .returned (.tuple #[.int .i64 (lineOf s (bound s i)), .int .i64 (colOf s (bound s i))]) ∧ Below w.heap.size w w' := by
  have hs : s.size ≤ maxLen := by unfold maxLen; omega
  have hk := bound_le s i
  obtain ⟨k, hk'⟩ : ∃ k, bound s i = k := ⟨_, rfl⟩
  rw [hk'] at hk ⊢
  have HK := Lib.hid hk'
  clear hk'
  go_enter Try.func15, Try.ntmps15
  go_wp2_with (go_at_call 18; refine (rest_any s i _ hs).mono ?_; rintro e w1 ⟨rfl, hb1⟩; rw [HK.out]; have HB := Lib.hid hb1; clear hb1)
  go_loopw [8, 9] (fun a b wr => ∃ (pos p q : Nat), wr = w1.iter s pos ∧ pos ≤ s.size ∧ a = .int .i64 p ∧ b = .int .i64 q ∧ p ≤ pos + 1 ∧ q ≤ pos ∧ Hid (p = lineOf s (min pos k)) ∧ Hid (q = beginOf s (min pos k))) (fun _ _ wr => s.size - wr.iterPos w1.heap.size)
  case atStart => exact ⟨0, 1, 0, rfl, by omega, rfl, rfl, by omega, by omega, Lib.hid (by rw [Nat.zero_min]; rfl), Lib.hid (by rw [Nat.zero_min]; rfl)⟩
  case round =>
    obtain ⟨pos, p, q, rfl, hpos, rfl, rfl, hp, hq, HP, HQ⟩ := hrel
    by_cases hlt : pos < s.size
    · have hnx : ∀ ty, (Instr.next (.pointer (some ⟨w1.heap.size, 0, none⟩)) true ty).run Try.prog (w1.iter s pos) = _ := fun ty => run_next_any w1 s pos ty hlt
      have hwd := width_pos s pos hlt
      have hwl := width_le s pos hlt
      have hst := Lib.hid (line_step s k pos hlt)
      have hg := get_bt s pos hlt
      have hr := bt_range s pos
      by_cases hc : pos < k ∧ bt s pos = 10
      · obtain ⟨hc1, hc2⟩ := hc
        rw [hc2] at hg
        go_wp2
        go_roundw
        case rel =>
          have h := hst.out
          rw [if_pos ⟨hc1, hc2⟩, if_pos ⟨hc1, hc2⟩] at h
          exact ⟨_, p + 1, pos + 1, rfl, hwl, by go_num, by go_num, by omega, by omega, Lib.hid (by rw [h.1, ← HP.out]), Lib.hid (by rw [h.2])⟩
        case measure => simp; omega
      · have hc' : pos < k → (bt s pos == 10) = false := fun h => by simp; exact fun e => hc ⟨h, e⟩
        by_cases hpk : pos < k
        · have hc2 := hc' hpk
          clear hc hc'
          go_wp2
          go_roundw
          case rel =>
            have h := hst.out
            rw [if_neg (fun h => by simp [h.2] at hc2), if_neg (fun h => by simp [h.2] at hc2)] at h
            exact ⟨_, p, q, rfl, hwl, rfl, rfl, by omega, by omega, Lib.hid (by rw [h.1]; exact HP.out), Lib.hid (by rw [h.2]; exact HQ.out)⟩
          case measure => simp; omega
        · clear hc hc'
          go_wp2
          go_roundw
          case rel =>
            have h := hst.out
            rw [if_neg (fun h => hpk h.1), if_neg (fun h => hpk h.1)] at h
            exact ⟨_, p, q, rfl, hwl, rfl, rfl, by omega, by omega, Lib.hid (by rw [h.1]; exact HP.out), Lib.hid (by rw [h.2]; exact HQ.out)⟩
          case measure => simp; omega
    · have hnx : ∀ ty, (Instr.next (.pointer (some ⟨w1.heap.size, 0, none⟩)) true ty).run Try.prog (w1.iter s pos) = _ := fun ty => run_next_end w1 s pos ty hlt
      go_wp2
      go_ret2
      have e1 : min pos k = k := by omega
      have hp2 := HP.out
      have hq2 := HQ.out
      rw [e1] at hp2 hq2
      have hb := beginOf_le s k
      refine ⟨?_, HB.out.alloc HB.out.size _⟩
      rw [← hp2, colOf, ← hq2]
      rfl
end Go.Proofs.Ytgpcjfogmakfaaa
