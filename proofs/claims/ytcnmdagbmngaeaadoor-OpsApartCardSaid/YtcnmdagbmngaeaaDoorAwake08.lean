/- nostoslaw08: awake. -/
import Derived.Test.YtcnmdagbmngaeaaDoorTab08
import Derived.Test.YtcnmdagbmngaeaaDoorRef08
namespace Go.Proofs.YtcnmdagbmngaeaaDoor
open Go.RowKit

set_option maxHeartbeats 2000000 in
set_option maxRecDepth 100000 in
theorem awake_any (w : World) (ht : Tab w) : Calls Tryd.prog 8 #[] w fun e w' => e = .returned (.bool true) ∧ Below w.heap.size w w' := by
  have HT := Lib.hid ht
  clear ht
  go_enter Tryd.func8, Tryd.ntmps8
  go_wp2_with fail
  refine (Find_any ⟨#[100, 117, 112]⟩ (13) _ (by decide +kernel) (by decide) HT.out).mono ?_
  rintro e w1 ⟨rfl, hb⟩
  have HT1 := Lib.hid (HT.out.below hb)
  have HB1 := Lib.hid (hb)
  clear hb
  go_wp2_with fail
  refine (Name_any 13 ⟨#[68, 85, 80]⟩ _ (by decide +kernel) HT1.out).mono ?_
  rintro e w2 ⟨rfl, hb⟩
  have HT2 := Lib.hid (HT1.out.below hb)
  have HB2 := Lib.hid (below_two HB1.out hb)
  clear hb
  go_wp2_with fail
  refine (Find_any ⟨#[40, 76, 73, 84, 41]⟩ (0) _ (by decide +kernel) (by decide) HT2.out).mono ?_
  rintro e w3 ⟨rfl, hb⟩
  have HT3 := Lib.hid (HT2.out.below hb)
  have HB3 := Lib.hid (below_two HB2.out hb)
  clear hb
  go_wp2_with fail
  refine (Inner_any 2 true _ (by decide) HT3.out).mono ?_
  rintro e w4 ⟨rfl, hb⟩
  have HT4 := Lib.hid (HT3.out.below hb)
  have HB4 := Lib.hid (below_two HB3.out hb)
  clear hb
  go_wp2_with fail
  refine (Now_any 98 true _ (by decide) HT4.out).mono ?_
  rintro e w5 ⟨rfl, hb⟩
  have HT5 := Lib.hid (HT4.out.below hb)
  have HB5 := Lib.hid (below_two HB4.out hb)
  clear hb
  go_wp2_with fail
  refine (Now_any 13 false _ (by decide) HT5.out).mono ?_
  rintro e w6 ⟨rfl, hb⟩
  have HT6 := Lib.hid (HT5.out.below hb)
  have HB6 := Lib.hid (below_two HB5.out hb)
  clear hb
  go_wp2_with fail
  refine (Only_any 1 true _ (by decide) HT6.out).mono ?_
  rintro e w7 ⟨rfl, hb⟩
  have HT7 := Lib.hid (HT6.out.below hb)
  have HB7 := Lib.hid (below_two HB6.out hb)
  clear hb
  go_wp2_with fail
  refine (Wide_any 2 true _ (by decide) HT7.out).mono ?_
  rintro e w8 ⟨rfl, hb⟩
  have HT8 := Lib.hid (HT7.out.below hb)
  have HB8 := Lib.hid (below_two HB7.out hb)
  clear hb
  go_wp2_with fail
  refine (Is_any 137 true _ (by decide) HT8.out).mono ?_
  rintro e w9 ⟨rfl, hb⟩
  have HT9 := Lib.hid (HT8.out.below hb)
  have HB9 := Lib.hid (below_two HB8.out hb)
  clear hb
  go_wp2_with fail
  refine (Is_any 138 false _ (by decide) HT9.out).mono ?_
  rintro e w10 ⟨rfl, hb⟩
  have HT10 := Lib.hid (HT9.out.below hb)
  have HB10 := Lib.hid (below_two HB9.out hb)
  clear hb
  go_wp2
  go_ret
  exact ⟨rfl, HB10.out⟩
end Go.Proofs.YtcnmdagbmngaeaaDoor
