/- Figures, and signs cut off. -/
import Derived.Test.YtmpmhbfaebgdgaaRPut
import Derived.Test.YtmpmhbfaebgdgaaPlain06
import Derived.Test.YtmpmhbfaebgdgaaStrIdx
namespace Go.Proofs.Ytmpmhbfaebgdgaa
open Go.RowKit

/-- A figure's number. -/
def figN (c : Int) : Int := if 48 ≤ c ∧ c ≤ 57 then c - 48 else if 65 ≤ c ∧ c ≤ 90 then c - 55 else if 97 ≤ c ∧ c ≤ 122 then c - 87 else -1
theorem figN_lt (c : Int) : -1 ≤ figN c ∧ figN c < 36 := by
  unfold figN
  split
  · omega
  · split
    · omega
    · split <;> omega

def figList : List UInt8 := [48, 49, 50, 51, 52, 53, 54, 55, 56, 57, 65, 66, 67, 68, 69, 70, 71, 72, 73, 74, 75, 76, 77, 78, 79, 80, 81, 82, 83, 84, 85, 86, 87, 88, 89, 90]
theorem index_fig : ∀ c : Fin 256, ¬ (97 ≤ c.1 ∧ c.1 ≤ 122) → Lib.indexByte figList ((c.1 : Nat)).toUInt8 = figN (c.1 : Nat) := by decide +kernel
theorem figN_low {c : Int} (h : 97 ≤ c ∧ c ≤ 122) : figN c = figN (c - 32) := by
  unfold figN
  rw [if_neg (by omega), if_neg (by omega), if_pos (by omega), if_neg (by omega), if_pos (by omega)]
  omega

theorem figIdx_any (c : Int) (w : World) (h0 : 0 ≤ c) (h1 : c < 256) (hl : ¬ (97 ≤ c ∧ c ≤ 122)) :
    Calls Try.prog 21 #[.string ⟨figList.toArray⟩, .int .u8 c] w fun e w' => e = .returned (.int .i64 (figN c)) ∧ w = w' := by
  obtain ⟨c, rfl⟩ := Int.eq_ofNat_of_zero_le h0
  have := index_fig ⟨c, by omega⟩ (by simp only; omega)
  simp only at this
  rw [← this]
  exact strings_IndexByte ⟨figList.toArray⟩ c w

set_option maxHeartbeats 1000000 in
theorem figure_any (c : Int) (w : World) (h0 : 0 ≤ c) (h1 : c < 256) :
    Calls Try.prog 17 #[.int .u8 c] w fun e w' => e = .returned (.int .i64 (figN c)) ∧ w = w' := by
  by_cases hl : 97 ≤ c ∧ c ≤ 122
  · rw [figN_low hl]
    obtain ⟨ha, hb⟩ := hl
    have b1 : IntKind.u8.wrap (c - 32) = c - 32 := IntWalk.u8_in _ (by omega)
    go_enter Try.func17, Try.ntmps17
    go_wp2_with fail
    refine (figIdx_any (c - 32) _ (by omega) (by omega) (by omega)).mono ?_
    rintro e w' ⟨rfl, rfl⟩
    go_wp2
    go_ret
    exact ⟨rfl, rfl⟩
  · by_cases ha : 97 ≤ c
    · have hb : ¬ c ≤ 122 := by omega
      go_enter Try.func17, Try.ntmps17
      go_wp2_with fail
      refine (figIdx_any c _ (by omega) (by omega) (by omega)).mono ?_
      rintro e w' ⟨rfl, rfl⟩
      go_wp2
      go_ret
      exact ⟨rfl, rfl⟩
    · go_enter Try.func17, Try.ntmps17
      go_wp2_with fail
      refine (figIdx_any c _ (by omega) (by omega) (by omega)).mono ?_
      rintro e w' ⟨rfl, rfl⟩
      go_wp2
      go_ret
      exact ⟨rfl, rfl⟩

set_option maxHeartbeats 1000000 in
theorem RFigure_any (c : Int) (w : World) (h0 : 0 ≤ c) (h1 : c < 256) :
    Calls Try.prog 19 #[.int .u8 c] w fun e w' => e = .returned (.int .i64 (figN c)) ∧ w = w' := by
  unfold figN
  by_cases ha : 48 ≤ c ∧ c ≤ 57
  · rw [if_pos ha]
    obtain ⟨h2, h3⟩ := ha
    have b1 : IntKind.u8.wrap (c - 48) = c - 48 := IntWalk.u8_in _ (by omega)
    go_enter Try.func19, Try.ntmps19
    go_wp2
    go_ret
    exact ⟨rfl, rfl⟩
  · rw [if_neg ha]
    by_cases hb : 65 ≤ c ∧ c ≤ 90
    · rw [if_pos hb]
      obtain ⟨h2, h3⟩ := hb
      have b1 : IntKind.u8.wrap (c - 65) = c - 65 := IntWalk.u8_in _ (by omega)
      have e1 : c - 55 = c - 65 + 10 := by omega
      rw [e1]
      go_enter Try.func19, Try.ntmps19
      go_wp2
      go_ret
      exact ⟨rfl, rfl⟩
    · rw [if_neg hb]
      by_cases hc : 97 ≤ c ∧ c ≤ 122
      · rw [if_pos hc]
        obtain ⟨h2, h3⟩ := hc
        have b1 : IntKind.u8.wrap (c - 97) = c - 97 := IntWalk.u8_in _ (by omega)
        have e1 : c - 87 = c - 97 + 10 := by omega
        rw [e1]
        go_enter Try.func19, Try.ntmps19
        go_wp2
        go_ret
        exact ⟨rfl, rfl⟩
      · rw [if_neg hc]
        go_enter Try.func19, Try.ntmps19
        go_wp2
        all_goals first | omega | (go_ret; first | exact ⟨rfl, rfl⟩ | omega)
end Go.Proofs.Ytmpmhbfaebgdgaa
