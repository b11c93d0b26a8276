/- Plain words on numbers as texts: no program in sight. -/
import Derived.Test.YtmpmhbfaebgdgaaBase
namespace Go.Proofs.Ytmpmhbfaebgdgaa
open Go.RowKit

/-- A figure. -/
def fig (d : Nat) : Int := if d < 10 then 48 + d else 55 + d
/-- The figures of a number that isn't 0; of any number; none has the last one ahead. -/
def digD (b : Nat) (m : Nat) : List Int := if h : 2 ≤ b ∧ 0 < m then digD b (m / b) ++ [fig (m % b)] else []
  termination_by m
  decreasing_by exact Nat.div_lt_self h.2 h.1
def digs (b m : Nat) : List Int := if m = 0 then [fig 0] else digD b m
theorem digD_0 (b : Nat) : digD b 0 = [] := by rw [digD, dif_neg (by omega)]
theorem digD_pos {b m : Nat} (hb : 2 ≤ b) (hm : 0 < m) : digD b m = digD b (m / b) ++ [fig (m % b)] := by rw [digD, dif_pos ⟨hb, hm⟩]
theorem digs_eq {b m : Nat} (hb : 2 ≤ b) : digs b m = digD b (m / b) ++ [fig (m % b)] := by
  rcases Nat.eq_zero_or_pos m with h | h
  · subst h
    rw [digs, if_pos rfl, Nat.zero_div, digD_0, Nat.zero_mod]
    rfl
  · rw [digs, if_neg (by omega), digD_pos hb h]
theorem digD_len {b : Nat} (hb : 2 ≤ b) : ∀ (k m : Nat), m < 2 ^ k → (digD b m).length ≤ k
  | 0, m, h => by
    obtain rfl : m = 0 := by simpa using h
    rw [digD_0]
    simp
  | k + 1, m, h => by
    rcases Nat.eq_zero_or_pos m with h0 | h0
    · subst h0
      rw [digD_0]
      simp
    · rw [digD_pos hb h0]
      have h1 : m / b < 2 ^ k := by
        have : m / b ≤ m / 2 := Nat.div_le_div_left hb (by decide)
        rw [Nat.pow_succ] at h
        omega
      have := digD_len hb k (m / b) h1
      simp
      omega
theorem digs_len {b m : Nat} (hb : 2 ≤ b) (hm : m < 2 ^ 64) : 1 ≤ (digs b m).length ∧ (digs b m).length ≤ 64 := by
  rcases Nat.eq_zero_or_pos m with h | h
  · subst h
    rw [digs, if_pos rfl]
    simp
  · rw [digs, if_neg (by omega)]
    refine ⟨?_, digD_len hb 64 m hm⟩
    rw [digD_pos hb h]
    simp
theorem fig_range {d : Nat} (h : d < 36) : 48 ≤ fig d ∧ fig d ≤ 90 := by
  unfold fig
  split <;> omega
/-- A cell as a text. -/
def putL (n : Int) (b : Nat) : List Int := (if n < 0 then [45] else []) ++ digs b n.natAbs
def putOk (b : Int) : Bool := decide (2 ≤ b) && decide (b ≤ 36)
def putS (n b : Int) : ByteArray := if putOk b then strOf (putL n b.toNat) else ByteArray.empty
end Go.Proofs.Ytmpmhbfaebgdgaa
