/- nostoslaw05: awake. -/
import Derived.Test.YtmpmhbfaebgdgaaTakeZ
namespace Go.Proofs.Ytmpmhbfaebgdgaa
open Go.RowKit

set_option maxHeartbeats 1000000 in
set_option maxRecDepth 100000 in
theorem awake_any (w : World) : Calls Try.prog 8 #[] w fun e w' => e = .returned (.bool true) ∧ Below w.heap.size w w' := by
  go_enter Try.func8, Try.ntmps8
  go_wp2_with fail
  refine (Put_is (-255) 16 _ ⟨#[45, 70, 70]⟩ true (by decide +kernel) (by decide +kernel) (by decide) (by decide)).mono ?_
  rintro e w1 ⟨rfl, hb⟩
  have HB := Lib.hid hb
  clear hb
  go_wp2_with fail
  refine (Take_is ⟨#[36, 45, 102, 70]⟩ 10 _ (-255) true (by decide +kernel) (by decide)).mono ?_
  rintro e w2 ⟨rfl, hb⟩
  have HB := Lib.hid (below_two HB.out hb)
  clear hb
  go_wp2_with fail
  refine (Take_is ⟨#[39, 65, 39]⟩ 1 _ 65 true (by decide +kernel) (by decide)).mono ?_
  rintro e w3 ⟨rfl, hb⟩
  have HB := Lib.hid (below_two HB.out hb)
  clear hb
  go_wp2_with fail
  refine (Take_is ⟨#[]⟩ 10 _ 0 false (by decide +kernel) (by decide)).mono ?_
  rintro e w4 ⟨rfl, hb⟩
  have HB := Lib.hid (below_two HB.out hb)
  clear hb
  go_wp2
  go_ret
  exact ⟨rfl, HB.out⟩
end Go.Proofs.Ytmpmhbfaebgdgaa
