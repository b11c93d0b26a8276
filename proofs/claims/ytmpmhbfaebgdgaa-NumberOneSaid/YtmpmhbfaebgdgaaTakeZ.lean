/- number.Take. -/
import Derived.Test.YtmpmhbfaebgdgaaTakeA
import Derived.Test.YtmpmhbfaebgdgaaTakeB
import Derived.Test.YtmpmhbfaebgdgaaTakeC
import Derived.Test.YtmpmhbfaebgdgaaTakeD
namespace Go.Proofs.Ytmpmhbfaebgdgaa
open Go.RowKit

theorem Take_is (s : ByteArray) (b : Int) (w : World) (x : Int) (ok : Bool) (hx : takeR s b = (x, ok)) (hs : s.size ≤ 1000000) :
    Calls Try.prog 11 #[.string s, .int .i64 b] w fun e w' => e = .returned (.tuple #[.int .i64 x, .bool ok]) ∧ Below w.heap.size w w' := by
  unfold takeR at hx
  cases hch : isChar s with
  | true =>
    rw [if_pos hch] at hx
    injection hx with h1 h2
    subst h1 h2
    exact Take_char s b w hch hs
  | false =>
    rw [if_neg (by rw [hch]; decide)] at hx
    cases k1 : begins s 35 with
    | true =>
      have e1 : signR s = cutS s 35 := by rw [signR, if_pos k1]
      have e2 : baseR s b = 10 := by rw [baseR, if_pos k1]
      rw [e1, e2] at hx
      exact Take_A s b w x ok hch k1 hx hs
    | false =>
      have k1' : ¬ begins s 35 = true := by rw [k1]; decide
      cases k2 : begins s 36 with
      | true =>
        have e1 : signR s = cutS s 36 := by rw [signR, if_neg k1', if_pos k2]
        have e2 : baseR s b = 16 := by rw [baseR, if_neg k1', if_pos k2]
        rw [e1, e2] at hx
        exact Take_B s b w x ok hch k1 k2 hx hs
      | false =>
        have k2' : ¬ begins s 36 = true := by rw [k2]; decide
        cases k3 : begins s 37 with
        | true =>
          have e1 : signR s = cutS s 37 := by rw [signR, if_neg k1', if_neg k2', if_pos k3]
          have e2 : baseR s b = 2 := by rw [baseR, if_neg k1', if_neg k2', if_pos k3]
          rw [e1, e2] at hx
          exact Take_C s b w x ok hch k1 k2 k3 hx hs
        | false =>
          have k3' : ¬ begins s 37 = true := by rw [k3]; decide
          have e1 : signR s = s := by rw [signR, if_neg k1', if_neg k2', if_neg k3']
          have e2 : baseR s b = b := by rw [baseR, if_neg k1', if_neg k2', if_neg k3']
          rw [e1, e2] at hx
          exact Take_D s b w x ok hch k1 k2 k3 hx hs
end Go.Proofs.Ytmpmhbfaebgdgaa
