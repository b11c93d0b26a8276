/- The plain laws of a source. -/
import Derived.Test.YtgpcjfogmakfaaaSrc3
namespace Go.Proofs.Ytgpcjfogmakfaaa
open Go.RowKit

theorem line_same (s : ByteArray) (k : Nat) : ∀ d, (∀ j, k ≤ j → j < k + d → bt s j ≠ 10) → lineOf s (k + d) = lineOf s k ∧ beginOf s (k + d) = beginOf s k
  | 0, _ => ⟨rfl, rfl⟩
  | d + 1, h => by
    have ih := line_same s k d (fun j h1 h2 => h j h1 (by omega))
    have hb := h (k + d) (by omega) (by omega)
    rw [← Nat.add_assoc, lineOf, beginOf, if_neg hb, if_neg hb]
    exact ih
theorem line_mono (s : ByteArray) (k : Nat) : ∀ d, lineOf s k ≤ lineOf s (k + d) ∧ (lineOf s k = lineOf s (k + d) → beginOf s k = beginOf s (k + d))
  | 0 => ⟨Nat.le_refl _, fun _ => rfl⟩
  | d + 1 => by
    have ih := line_mono s k d
    rw [← Nat.add_assoc, lineOf, beginOf]
    by_cases hb : bt s (k + d) = 10
    · rw [if_pos hb, if_pos hb]
      exact ⟨by omega, fun h => by omega⟩
    · rw [if_neg hb, if_neg hb]
      exact ih

/-- Of two places in turn the line rises, or the column. -/
theorem place_turn (s : ByteArray) (n m : Nat) : (n < m) ↔ (lineOf s n < lineOf s m ∨ lineOf s n = lineOf s m ∧ colOf s n < colOf s m) := by
  unfold colOf
  rcases Nat.lt_or_ge n m with h | h
  · obtain ⟨d, rfl⟩ : ∃ d, m = n + d := ⟨m - n, by omega⟩
    have hm := line_mono s n d
    refine ⟨fun _ => ?_, fun _ => h⟩
    rcases Nat.lt_or_ge (lineOf s n) (lineOf s (n + d)) with h1 | h1
    · exact .inl h1
    · have e : lineOf s n = lineOf s (n + d) := by omega
      have := hm.2 e
      exact .inr ⟨e, by omega⟩
  · obtain ⟨d, rfl⟩ : ∃ d, n = m + d := ⟨n - m, by omega⟩
    have hm := line_mono s m d
    refine ⟨fun h2 => by omega, fun h2 => ?_⟩
    rcases h2 with h2 | ⟨h2, h3⟩
    · omega
    · have := hm.2 h2.symm
      omega

/-- The line behind one. -/
theorem line_next (s : ByteArray) (k : Nat) (hk : k < s.size) (hb : beginOf s k = k) :
    let q := skip (isNot 10) s k
    k < behind s q ∧ behind s q ≤ s.size ∧ (behind s q < s.size → bt s (behind s q - 1) = 10) ∧ (behind s q < s.size → lineOf s (behind s q) = lineOf s k + 1 ∧ beginOf s (behind s q) = behind s q) := by
  intro q
  have h1 : k ≤ q := skip_ge (by omega)
  have h2 : q ≤ s.size := skip_le (by omega)
  have h3 : ∀ j, k ≤ j → j < q → isNot 10 (bt s j) = true := skip_in (by omega)
  have h4 : q < s.size → isNot 10 (bt s q) = false := skip_at (by omega)
  unfold behind
  by_cases hq : q < s.size
  · rw [if_pos hq]
    have hb10 : bt s q = 10 := by have := h4 hq; simpa [isNot] using this
    refine ⟨by omega, by omega, fun _ => by rw [Nat.add_sub_cancel]; exact hb10, fun _ => ?_⟩
    obtain ⟨d, hd⟩ : ∃ d, q = k + d := ⟨q - k, by omega⟩
    have hs := line_same s k d (fun j ha hb => by have := h3 j ha (by omega); simpa [isNot] using this)
    rw [← hd] at hs
    rw [lineOf, beginOf, if_pos hb10, if_pos hb10, hs.1]
    exact ⟨rfl, rfl⟩
  · rw [if_neg hq]
    exact ⟨hk, Nat.le_refl _, fun h => by omega, fun h => by omega⟩

theorem bound_nat (s : ByteArray) (k : Nat) (h : k ≤ s.size) : bound s (k : Int) = k := by
  unfold bound
  omega
end Go.Proofs.Ytgpcjfogmakfaaa
