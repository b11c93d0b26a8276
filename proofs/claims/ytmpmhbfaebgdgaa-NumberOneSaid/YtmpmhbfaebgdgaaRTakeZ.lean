/- nostosref05.Take, whole. -/
import Derived.Test.YtmpmhbfaebgdgaaRTakeA
import Derived.Test.YtmpmhbfaebgdgaaRTakeB
namespace Go.Proofs.Ytmpmhbfaebgdgaa
open Go.RowKit

set_option maxHeartbeats 1000000 in
set_option maxRecDepth 100000 in
theorem RTake_char (s : ByteArray) (b : Int) (w : World) (hch : isChar s = true) (hs : s.size ≤ 1000000) :
    Calls Try.prog 12 #[.string s, .int .i64 b] w fun e w' => e = .returned (.tuple #[.int .i64 (bt s 1), .bool true]) ∧ w = w' := by
  unfold isChar at hch
  simp only [Bool.and_eq_true, decide_eq_true_eq] at hch
  obtain ⟨h3, h0, h2⟩ := hch
  have g0 := get_bt s 0 (by omega)
  have g1 := get_bt s 1 (by omega)
  have g2 := get_bt s 2 (by omega)
  have hb1 := bt_range s 1
  generalize bt s 1 = x at *
  rw [h0] at g0
  rw [h2] at g2
  clear h0 h2
  go_enter Try.func12, Try.ntmps12
  go_wp2
  go_ret2
  exact ⟨rfl, rfl⟩

theorem RTake_is (s : ByteArray) (b : Int) (w : World) (x : Int) (ok : Bool) (hx : takeR s b = (x, ok)) (hs : s.size ≤ 1000000) :
    Calls Try.prog 12 #[.string s, .int .i64 b] w fun e w' => e = .returned (.tuple #[.int .i64 x, .bool ok]) ∧ w = w' := by
  rw [takeR_from] at hx
  unfold takeF at hx
  cases hch : isChar s with
  | true =>
    rw [if_pos hch] at hx
    injection hx with h1 h2
    subst h1 h2
    exact RTake_char s b w hch hs
  | false =>
    rw [if_neg (by rw [hch]; decide)] at hx
    by_cases hsg : signB s = 0
    · have e1 : k1F s = 0 := by rw [k1F, if_pos hsg]
      have e2 : bF s b = b := by rw [bF, if_pos hsg]
      by_cases hk : 0 < s.size
      · by_cases hm : bt s 0 = 45
        · have e3 : mF s = true := by rw [mF, e1, decide_eq_true hk, decide_eq_true hm]; rfl
          have e4 : k2F s = 1 := by rw [k2F, e1, e3]; rfl
          rw [e2, e3, e4] at hx
          exact RTake_AT s b 0 w x ok hch hsg rfl hk hm hx hs
        · have e3 : mF s = false := by rw [mF, e1, decide_eq_false hm, Bool.and_false]
          have e4 : k2F s = 0 := by rw [k2F, e1, e3]; rfl
          rw [e2, e3, e4] at hx
          exact RTake_AN s b 0 w x ok hch hsg rfl hk hm hx hs
      · have e3 : mF s = false := by rw [mF, e1, decide_eq_false hk, Bool.false_and]
        have e4 : k2F s = 0 := by rw [k2F, e1, e3]; rfl
        rw [e2, e3, e4] at hx
        exact RTake_AE s b 0 w x ok hch hsg rfl hk hx hs
    · have hpos : 0 < signB s := by
        unfold signB at hsg ⊢
        split
        · decide
        · split
          · decide
          · split
            · decide
            · rename_i h1 h2 h3
              rw [if_neg h1, if_neg h2, if_neg h3] at hsg
              exact absurd rfl hsg
      have e1 : k1F s = 1 := by rw [k1F, if_neg hsg]
      have e2 : bF s b = signB s := by rw [bF, if_neg hsg]
      by_cases hk : 1 < s.size
      · by_cases hm : bt s 1 = 45
        · have e3 : mF s = true := by rw [mF, e1, decide_eq_true hk, decide_eq_true hm]; rfl
          have e4 : k2F s = 2 := by rw [k2F, e1, e3]; rfl
          rw [e2, e3, e4] at hx
          exact RTake_BT s b _ w x ok hch rfl hpos hk hm hx hs
        · have e3 : mF s = false := by rw [mF, e1, decide_eq_false hm, Bool.and_false]
          have e4 : k2F s = 1 := by rw [k2F, e1, e3]; rfl
          rw [e2, e3, e4] at hx
          exact RTake_BN s b _ w x ok hch rfl hpos hk hm hx hs
      · have e3 : mF s = false := by rw [mF, e1, decide_eq_false hk, Bool.false_and]
        have e4 : k2F s = 1 := by rw [k2F, e1, e3]; rfl
        rw [e2, e3, e4] at hx
        exact RTake_BE s b _ w x ok hch rfl hpos hk hx hs
end Go.Proofs.Ytmpmhbfaebgdgaa
