/- nostosref05.signed and Take. -/
import Derived.Test.YtmpmhbfaebgdgaaTakeZ
import Derived.Test.YtmpmhbfaebgdgaaPlain05b
namespace Go.Proofs.Ytmpmhbfaebgdgaa
open Go.RowKit

/-- The base that a sign tells, or 0. -/
theorem signB_0 {s : ByteArray} (h : s.size = 0) : signB s = 0 := by
  have e : ∀ c, begins s c = false := fun c => by unfold begins; rw [decide_eq_false (by omega)]; rfl
  rw [signB, if_neg (by rw [e]; decide), if_neg (by rw [e]; decide), if_neg (by rw [e]; decide)]
theorem signB_pos {s : ByteArray} (h : 0 < s.size) : signB s = if bt s 0 = 35 then 10 else if bt s 0 = 36 then 16 else if bt s 0 = 37 then 2 else 0 := by
  have e : ∀ c, begins s c = decide (bt s 0 = c) := fun c => by unfold begins; rw [decide_eq_true h]; rfl
  simp only [signB, e, decide_eq_true_eq]

set_option maxHeartbeats 1000000 in
theorem RSigned_any (s : ByteArray) (w : World) (hs : s.size ≤ 1000000) :
    Calls Try.prog 18 #[.string s] w fun e w' => e = .returned (.int .i64 (signB s)) ∧ w = w' := by
  rcases Nat.eq_zero_or_pos s.size with h0 | h0
  · rw [signB_0 h0]
    have h0' : ((s.size : Int) == 0) = true := by rw [h0]; rfl
    go_enter Try.func18, Try.ntmps18
    go_wp2
    go_ret
    exact ⟨rfl, rfl⟩
  · rw [signB_pos h0]
    have h0' : ((s.size : Int) == 0) = false := by rw [beq_eq_false_iff_ne]; omega
    have g0 := get_bt s 0 h0
    generalize bt s 0 = c at *
    by_cases h1 : c = 35
    · rw [if_pos h1]
      subst h1
      go_enter Try.func18, Try.ntmps18
      go_wp2
      go_ret
      exact ⟨rfl, rfl⟩
    · rw [if_neg h1]
      have k1 : (c == 35) = false := by simpa using h1
      by_cases h2 : c = 36
      · rw [if_pos h2]
        subst h2
        go_enter Try.func18, Try.ntmps18
        go_wp2
        go_ret
        exact ⟨rfl, rfl⟩
      · rw [if_neg h2]
        have k2 : (c == 36) = false := by simpa using h2
        by_cases h3 : c = 37
        · rw [if_pos h3]
          subst h3
          go_enter Try.func18, Try.ntmps18
          go_wp2
          go_ret
          exact ⟨rfl, rfl⟩
        · rw [if_neg h3]
          have k3 : (c == 37) = false := by simpa using h3
          go_enter Try.func18, Try.ntmps18
          go_wp2
          go_ret
          exact ⟨rfl, rfl⟩

/-- The same as takeR, by places. -/
def k1F (s : ByteArray) : Nat := if signB s = 0 then 0 else 1
def mF (s : ByteArray) : Bool := decide (k1F s < s.size) && decide (bt s (k1F s) = 45)
def k2F (s : ByteArray) : Nat := k1F s + (if mF s then 1 else 0)
def bF (s : ByteArray) (b : Int) : Int := if signB s = 0 then b else signB s
def takeF (s : ByteArray) (b : Int) : Int × Bool := if isChar s then (bt s 1, true) else if putOk (bF s b) && decide (k2F s < s.size) then finR (scan s (bF s b) (k2F s) 0) (mF s) else (0, false)
theorem signR_from (s : ByteArray) : signR s = s.extract (k1F s) s.size ∧ baseR s = bF s := by
  unfold signR k1F signB bF signB
  constructor
  · split
    · rename_i h
      rw [cutS, if_pos h, if_neg (by decide)]
    · split
      · rename_i h
        rw [cutS, if_pos h, if_neg (by decide)]
      · split
        · rename_i h
          rw [cutS, if_pos h, if_neg (by decide)]
        · rw [if_pos rfl, from_0]
  · funext b
    unfold baseR
    split
    · rfl
    · split
      · rfl
      · split
        · rfl
        · rfl
theorem takeR_from (s : ByteArray) (b : Int) : takeR s b = takeF s b := by
  obtain ⟨h1, h2⟩ := signR_from s
  unfold takeR takeF
  split
  · rfl
  · rw [h2, h1]
    have e1 : begins (s.extract (k1F s) s.size) 45 = mF s := begins_from s _ 45
    have e2 : cutS (s.extract (k1F s) s.size) 45 = s.extract (k2F s) s.size := by
      unfold cutS k2F
      rw [e1]
      cases mF s with
      | true => rw [if_pos rfl, if_pos rfl, from_from]
      | false => rw [if_neg (by decide), if_neg (by decide), Nat.add_zero]
    rw [e1, e2]
    unfold tailR
    rw [size_from, scan_from s (bF s b) (k2F s) _ 0 0 rfl, Nat.add_zero]
    have e3 : decide (0 < s.size - k2F s) = decide (k2F s < s.size) := by simp only [decide_eq_decide]; omega
    rw [e3]
    rfl
end Go.Proofs.Ytmpmhbfaebgdgaa
