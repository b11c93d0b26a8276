/- The walks of OpsTells, OpsFinds, OpsKinds, OpsApart. -/
import Derived.Test.YtcnmdagbmngaeaaDoorAwake08
import Derived.Test.YtcnmdagbmngaeaaDoorPlain08b
namespace Go.Proofs.YtcnmdagbmngaeaaDoor
open Go.RowKit

set_option maxHeartbeats 4000000 in
set_option maxRecDepth 100000 in
theorem OpsTells_walk (op : Int) (w : World) (ht : Tab w) : Calls Tryd.prog 3 #[.int .i64 op] w fun e w' => e = .returned (.bool true) ∧ Below w.heap.size w w' := by
  have HT := Lib.hid ht
  clear ht
  obtain ⟨s, hs⟩ : ∃ s, nameR op = s := ⟨_, rfl⟩
  have HS := Lib.hid hs
  clear hs
  obtain ⟨b1, hb1⟩ : ∃ b, isR op = b := ⟨_, rfl⟩
  have Hb1 := Lib.hid hb1
  clear hb1
  obtain ⟨b2, hb2⟩ : ∃ b, innerR op = b := ⟨_, rfl⟩
  have Hb2 := Lib.hid hb2
  clear hb2
  obtain ⟨b3, hb3⟩ : ∃ b, nowR op = b := ⟨_, rfl⟩
  have Hb3 := Lib.hid hb3
  clear hb3
  obtain ⟨b4, hb4⟩ : ∃ b, onlyR op = b := ⟨_, rfl⟩
  have Hb4 := Lib.hid hb4
  clear hb4
  obtain ⟨b5, hb5⟩ : ∃ b, wideR op = b := ⟨_, rfl⟩
  have Hb5 := Lib.hid hb5
  clear hb5
  go_enter Tryd.func3, Tryd.ntmps3
  go_wp2_with fail
  refine (awake_any _ HT.out).mono ?_
  rintro e w1 ⟨rfl, hb⟩
  have HT1 := Lib.hid (HT.out.below hb)
  have HB1 := Lib.hid (hb)
  clear hb
  go_wp2_with fail
  refine (Name_any op s _ HS.out HT1.out).mono ?_
  rintro e w2 ⟨rfl, hb⟩
  have HT2 := Lib.hid (HT1.out.below hb)
  have HB2 := Lib.hid (below_two HB1.out hb)
  clear hb
  go_wp2_with fail
  refine (RName_any op s _ HS.out).mono ?_
  rintro e w' ⟨rfl, rfl⟩
  go_wp2_with fail
  refine (Is_any op b1 _ Hb1.out HT2.out).mono ?_
  rintro e w3 ⟨rfl, hb⟩
  have HT3 := Lib.hid (HT2.out.below hb)
  have HB3 := Lib.hid (below_two HB2.out hb)
  clear hb
  go_wp2_with fail
  refine (RIs_any op b1 _ Hb1.out).mono ?_
  rintro e w' ⟨rfl, rfl⟩
  go_wp2_with fail
  refine (Inner_any op b2 _ Hb2.out HT3.out).mono ?_
  rintro e w4 ⟨rfl, hb⟩
  have HT4 := Lib.hid (HT3.out.below hb)
  have HB4 := Lib.hid (below_two HB3.out hb)
  clear hb
  go_wp2_with fail
  refine (RInner_any op b2 _ Hb2.out).mono ?_
  rintro e w' ⟨rfl, rfl⟩
  go_wp2_with fail
  refine (Now_any op b3 _ Hb3.out HT4.out).mono ?_
  rintro e w5 ⟨rfl, hb⟩
  have HT5 := Lib.hid (HT4.out.below hb)
  have HB5 := Lib.hid (below_two HB4.out hb)
  clear hb
  go_wp2_with fail
  refine (RNow_any op b3 _ Hb3.out).mono ?_
  rintro e w' ⟨rfl, rfl⟩
  go_wp2_with fail
  refine (Only_any op b4 _ Hb4.out HT5.out).mono ?_
  rintro e w6 ⟨rfl, hb⟩
  have HT6 := Lib.hid (HT5.out.below hb)
  have HB6 := Lib.hid (below_two HB5.out hb)
  clear hb
  go_wp2_with fail
  refine (ROnly_any op b4 _ Hb4.out).mono ?_
  rintro e w' ⟨rfl, rfl⟩
  go_wp2_with fail
  refine (Wide_any op b5 _ Hb5.out HT6.out).mono ?_
  rintro e w7 ⟨rfl, hb⟩
  have HT7 := Lib.hid (HT6.out.below hb)
  have HB7 := Lib.hid (below_two HB6.out hb)
  clear hb
  go_wp2_with fail
  refine (RWide_any op b5 _ Hb5.out).mono ?_
  rintro e w' ⟨rfl, rfl⟩
  go_wp2
  go_ret
  exact ⟨rfl, HB7.out⟩

set_option maxHeartbeats 4000000 in
set_option maxRecDepth 100000 in
theorem OpsFinds_walk (s : ByteArray) (hs : s.size ≤ maxLen) (w : World) (ht : Tab w) : Calls Tryd.prog 4 #[.string s] w fun e w' => e = .returned (.bool true) ∧ Below w.heap.size w w' := by
  have HT := Lib.hid ht
  clear ht
  obtain ⟨r, hr⟩ : ∃ r, findR (foldB s) = r := ⟨_, rfl⟩
  have hr2 : findR (foldB (foldB s)) = r := by rw [foldB_twice]; exact hr
  have HR := Lib.hid hr
  have HR2 := Lib.hid hr2
  clear hr hr2
  unfold maxLen at hs
  by_cases h60 : 60 < s.size
  · go_enter Tryd.func4, Tryd.ntmps4
    go_wp2_with fail
    refine (awake_any _ HT.out).mono ?_
    rintro e w1 ⟨rfl, hb⟩
    have HT1 := Lib.hid (HT.out.below hb)
    have HB1 := Lib.hid (hb)
    clear hb
    go_wp2
    go_ret
    exact ⟨rfl, HB1.out⟩
  · go_enter Tryd.func4, Tryd.ntmps4
    go_wp2_with fail
    refine (awake_any _ HT.out).mono ?_
    rintro e w1 ⟨rfl, hb⟩
    have HT1 := Lib.hid (HT.out.below hb)
    have HB1 := Lib.hid (hb)
    clear hb
    go_wp2_with fail
    refine (Find_any s r _ HR.out (by omega) HT1.out).mono ?_
    rintro e w2 ⟨rfl, hb⟩
    have HT2 := Lib.hid (HT1.out.below hb)
    have HB2 := Lib.hid (below_two HB1.out hb)
    clear hb
    go_wp2_with fail
    refine (RFind_any s r _ HR.out (by omega)).mono ?_
    rintro e w3 ⟨rfl, hb⟩
    have HT3 := Lib.hid (HT2.out.below hb)
    have HB3 := Lib.hid (below_two HB2.out hb)
    clear hb
    go_wp2_with fail
    refine (RFold_any s _ (by omega)).mono ?_
    rintro e w4 ⟨rfl, hb⟩
    have HT4 := Lib.hid (HT3.out.below hb)
    have HB4 := Lib.hid (below_two HB3.out hb)
    clear hb
    go_wp2_with fail
    refine (Find_any (foldB s) r _ HR2.out (by rw [foldB_size]; omega) HT4.out).mono ?_
    rintro e w5 ⟨rfl, hb⟩
    have HT5 := Lib.hid (HT4.out.below hb)
    have HB5 := Lib.hid (below_two HB4.out hb)
    clear hb
    go_wp2_with fail
    refine (Find_any s r _ HR.out (by omega) HT5.out).mono ?_
    rintro e w6 ⟨rfl, hb⟩
    have HT6 := Lib.hid (HT5.out.below hb)
    have HB6 := Lib.hid (below_two HB5.out hb)
    clear hb
    go_wp2
    go_ret
    exact ⟨rfl, HB6.out⟩
end Go.Proofs.YtcnmdagbmngaeaaDoor
