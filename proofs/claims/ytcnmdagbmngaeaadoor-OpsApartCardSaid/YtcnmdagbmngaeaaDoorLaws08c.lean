/- The walks of OpsKinds and OpsApart. -/
import Derived.Test.YtcnmdagbmngaeaaDoorAwake08
import Derived.Test.YtcnmdagbmngaeaaDoorPlain08b
namespace Go.Proofs.YtcnmdagbmngaeaaDoor
open Go.RowKit

set_option maxHeartbeats 4000000 in
set_option maxRecDepth 100000 in
theorem OpsKinds_A (op : Int) (s : ByteArray) (hs : nameR op = s) (he : s.toList.isEmpty = true) (h1 : isR op = false) (h2 : innerR op = false) (h3 : nowR op = false) (h4 : onlyR op = false) (h5 : wideR op = false) (w : World) (ht : Tab w) : Calls Tryd.prog 6 #[.int .i64 op] w fun e w' => e = .returned (.bool true) ∧ Below w.heap.size w w' := by
  have HT := Lib.hid ht
  have HS := Lib.hid hs
  have HIs := Lib.hid h1
  have HInner := Lib.hid h2
  have HNow := Lib.hid h3
  have HOnly := Lib.hid h4
  have HWide := Lib.hid h5
  clear ht hs h1 h2 h3 h4 h5
  go_enter Tryd.func6, Tryd.ntmps6
  go_wp2_with fail
  refine (awake_any _ HT.out).mono ?_
  rintro e w1 ⟨rfl, hb⟩
  have HT1 := Lib.hid (HT.out.below hb)
  have HB1 := Lib.hid (hb)
  clear hb
  go_wp2_with fail
  refine (Now_any op _ _ HNow.out HT1.out).mono ?_
  rintro e w2 ⟨rfl, hb⟩
  have HT2 := Lib.hid (HT1.out.below hb)
  have HB2 := Lib.hid (below_two HB1.out hb)
  clear hb
  go_wp2_with fail
  refine (Only_any op _ _ HOnly.out HT2.out).mono ?_
  rintro e w3 ⟨rfl, hb⟩
  have HT3 := Lib.hid (HT2.out.below hb)
  have HB3 := Lib.hid (below_two HB2.out hb)
  clear hb
  go_wp2_with fail
  refine (Wide_any op _ _ HWide.out HT3.out).mono ?_
  rintro e w4 ⟨rfl, hb⟩
  have HT4 := Lib.hid (HT3.out.below hb)
  have HB4 := Lib.hid (below_two HB3.out hb)
  clear hb
  go_wp2_with fail
  refine (Inner_any op _ _ HInner.out HT4.out).mono ?_
  rintro e w5 ⟨rfl, hb⟩
  have HT5 := Lib.hid (HT4.out.below hb)
  have HB5 := Lib.hid (below_two HB4.out hb)
  clear hb
  go_wp2_with fail
  refine (Wide_any op _ _ HWide.out HT5.out).mono ?_
  rintro e w6 ⟨rfl, hb⟩
  have HT6 := Lib.hid (HT5.out.below hb)
  have HB6 := Lib.hid (below_two HB5.out hb)
  clear hb
  go_wp2_with fail
  refine (Inner_any op _ _ HInner.out HT6.out).mono ?_
  rintro e w7 ⟨rfl, hb⟩
  have HT7 := Lib.hid (HT6.out.below hb)
  have HB7 := Lib.hid (below_two HB6.out hb)
  clear hb
  go_wp2_with fail
  refine (Name_any op s _ HS.out HT7.out).mono ?_
  rintro e w8 ⟨rfl, hb⟩
  have HT8 := Lib.hid (HT7.out.below hb)
  have HB8 := Lib.hid (below_two HB7.out hb)
  clear hb
  go_wp2_with fail
  refine (Is_any op _ _ HIs.out HT8.out).mono ?_
  rintro e w9 ⟨rfl, hb⟩
  have HT9 := Lib.hid (HT8.out.below hb)
  have HB9 := Lib.hid (below_two HB8.out hb)
  clear hb
  go_wp2
  go_ret
  exact ⟨rfl, HB9.out⟩

set_option maxHeartbeats 4000000 in
set_option maxRecDepth 100000 in
theorem OpsKinds_B (op : Int) (s : ByteArray) (hs : nameR op = s) (he : s.toList.isEmpty = false) (h1 : isR op = true) (h2 : innerR op = true) (h3 : nowR op = false) (h4 : onlyR op = false) (h5 : wideR op = true) (w : World) (ht : Tab w) : Calls Tryd.prog 6 #[.int .i64 op] w fun e w' => e = .returned (.bool true) ∧ Below w.heap.size w w' := by
  have HT := Lib.hid ht
  have HS := Lib.hid hs
  have HIs := Lib.hid h1
  have HInner := Lib.hid h2
  have HNow := Lib.hid h3
  have HOnly := Lib.hid h4
  have HWide := Lib.hid h5
  clear ht hs h1 h2 h3 h4 h5
  go_enter Tryd.func6, Tryd.ntmps6
  go_wp2_with fail
  refine (awake_any _ HT.out).mono ?_
  rintro e w1 ⟨rfl, hb⟩
  have HT1 := Lib.hid (HT.out.below hb)
  have HB1 := Lib.hid (hb)
  clear hb
  go_wp2_with fail
  refine (Now_any op _ _ HNow.out HT1.out).mono ?_
  rintro e w2 ⟨rfl, hb⟩
  have HT2 := Lib.hid (HT1.out.below hb)
  have HB2 := Lib.hid (below_two HB1.out hb)
  clear hb
  go_wp2_with fail
  refine (Only_any op _ _ HOnly.out HT2.out).mono ?_
  rintro e w3 ⟨rfl, hb⟩
  have HT3 := Lib.hid (HT2.out.below hb)
  have HB3 := Lib.hid (below_two HB2.out hb)
  clear hb
  go_wp2_with fail
  refine (Wide_any op _ _ HWide.out HT3.out).mono ?_
  rintro e w4 ⟨rfl, hb⟩
  have HT4 := Lib.hid (HT3.out.below hb)
  have HB4 := Lib.hid (below_two HB3.out hb)
  clear hb
  go_wp2_with fail
  refine (Is_any op _ _ HIs.out HT4.out).mono ?_
  rintro e w5 ⟨rfl, hb⟩
  have HT5 := Lib.hid (HT4.out.below hb)
  have HB5 := Lib.hid (below_two HB4.out hb)
  clear hb
  go_wp2_with fail
  refine (Wide_any op _ _ HWide.out HT5.out).mono ?_
  rintro e w6 ⟨rfl, hb⟩
  have HT6 := Lib.hid (HT5.out.below hb)
  have HB6 := Lib.hid (below_two HB5.out hb)
  clear hb
  go_wp2_with fail
  refine (Inner_any op _ _ HInner.out HT6.out).mono ?_
  rintro e w7 ⟨rfl, hb⟩
  have HT7 := Lib.hid (HT6.out.below hb)
  have HB7 := Lib.hid (below_two HB6.out hb)
  clear hb
  go_wp2_with fail
  refine (Inner_any op _ _ HInner.out HT7.out).mono ?_
  rintro e w8 ⟨rfl, hb⟩
  have HT8 := Lib.hid (HT7.out.below hb)
  have HB8 := Lib.hid (below_two HB7.out hb)
  clear hb
  go_wp2_with fail
  refine (Now_any op _ _ HNow.out HT8.out).mono ?_
  rintro e w9 ⟨rfl, hb⟩
  have HT9 := Lib.hid (HT8.out.below hb)
  have HB9 := Lib.hid (below_two HB8.out hb)
  clear hb
  go_wp2_with fail
  refine (Only_any op _ _ HOnly.out HT9.out).mono ?_
  rintro e w10 ⟨rfl, hb⟩
  have HT10 := Lib.hid (HT9.out.below hb)
  have HB10 := Lib.hid (below_two HB9.out hb)
  clear hb
  go_wp2_with fail
  refine (Name_any op s _ HS.out HT10.out).mono ?_
  rintro e w11 ⟨rfl, hb⟩
  have HT11 := Lib.hid (HT10.out.below hb)
  have HB11 := Lib.hid (below_two HB10.out hb)
  clear hb
  go_wp2_with fail
  refine (Is_any op _ _ HIs.out HT11.out).mono ?_
  rintro e w12 ⟨rfl, hb⟩
  have HT12 := Lib.hid (HT11.out.below hb)
  have HB12 := Lib.hid (below_two HB11.out hb)
  clear hb
  go_wp2
  go_ret
  exact ⟨rfl, HB12.out⟩

set_option maxHeartbeats 4000000 in
set_option maxRecDepth 100000 in
theorem OpsKinds_C (op : Int) (s : ByteArray) (hs : nameR op = s) (he : s.toList.isEmpty = false) (h1 : isR op = true) (h2 : innerR op = true) (h3 : nowR op = false) (h4 : onlyR op = false) (h5 : wideR op = false) (w : World) (ht : Tab w) : Calls Tryd.prog 6 #[.int .i64 op] w fun e w' => e = .returned (.bool true) ∧ Below w.heap.size w w' := by
  have HT := Lib.hid ht
  have HS := Lib.hid hs
  have HIs := Lib.hid h1
  have HInner := Lib.hid h2
  have HNow := Lib.hid h3
  have HOnly := Lib.hid h4
  have HWide := Lib.hid h5
  clear ht hs h1 h2 h3 h4 h5
  go_enter Tryd.func6, Tryd.ntmps6
  go_wp2_with fail
  refine (awake_any _ HT.out).mono ?_
  rintro e w1 ⟨rfl, hb⟩
  have HT1 := Lib.hid (HT.out.below hb)
  have HB1 := Lib.hid (hb)
  clear hb
  go_wp2_with fail
  refine (Now_any op _ _ HNow.out HT1.out).mono ?_
  rintro e w2 ⟨rfl, hb⟩
  have HT2 := Lib.hid (HT1.out.below hb)
  have HB2 := Lib.hid (below_two HB1.out hb)
  clear hb
  go_wp2_with fail
  refine (Only_any op _ _ HOnly.out HT2.out).mono ?_
  rintro e w3 ⟨rfl, hb⟩
  have HT3 := Lib.hid (HT2.out.below hb)
  have HB3 := Lib.hid (below_two HB2.out hb)
  clear hb
  go_wp2_with fail
  refine (Wide_any op _ _ HWide.out HT3.out).mono ?_
  rintro e w4 ⟨rfl, hb⟩
  have HT4 := Lib.hid (HT3.out.below hb)
  have HB4 := Lib.hid (below_two HB3.out hb)
  clear hb
  go_wp2_with fail
  refine (Inner_any op _ _ HInner.out HT4.out).mono ?_
  rintro e w5 ⟨rfl, hb⟩
  have HT5 := Lib.hid (HT4.out.below hb)
  have HB5 := Lib.hid (below_two HB4.out hb)
  clear hb
  go_wp2_with fail
  refine (Is_any op _ _ HIs.out HT5.out).mono ?_
  rintro e w6 ⟨rfl, hb⟩
  have HT6 := Lib.hid (HT5.out.below hb)
  have HB6 := Lib.hid (below_two HB5.out hb)
  clear hb
  go_wp2_with fail
  refine (Wide_any op _ _ HWide.out HT6.out).mono ?_
  rintro e w7 ⟨rfl, hb⟩
  have HT7 := Lib.hid (HT6.out.below hb)
  have HB7 := Lib.hid (below_two HB6.out hb)
  clear hb
  go_wp2_with fail
  refine (Inner_any op _ _ HInner.out HT7.out).mono ?_
  rintro e w8 ⟨rfl, hb⟩
  have HT8 := Lib.hid (HT7.out.below hb)
  have HB8 := Lib.hid (below_two HB7.out hb)
  clear hb
  go_wp2_with fail
  refine (Now_any op _ _ HNow.out HT8.out).mono ?_
  rintro e w9 ⟨rfl, hb⟩
  have HT9 := Lib.hid (HT8.out.below hb)
  have HB9 := Lib.hid (below_two HB8.out hb)
  clear hb
  go_wp2_with fail
  refine (Only_any op _ _ HOnly.out HT9.out).mono ?_
  rintro e w10 ⟨rfl, hb⟩
  have HT10 := Lib.hid (HT9.out.below hb)
  have HB10 := Lib.hid (below_two HB9.out hb)
  clear hb
  go_wp2_with fail
  refine (Name_any op s _ HS.out HT10.out).mono ?_
  rintro e w11 ⟨rfl, hb⟩
  have HT11 := Lib.hid (HT10.out.below hb)
  have HB11 := Lib.hid (below_two HB10.out hb)
  clear hb
  go_wp2_with fail
  refine (Is_any op _ _ HIs.out HT11.out).mono ?_
  rintro e w12 ⟨rfl, hb⟩
  have HT12 := Lib.hid (HT11.out.below hb)
  have HB12 := Lib.hid (below_two HB11.out hb)
  clear hb
  go_wp2
  go_ret
  exact ⟨rfl, HB12.out⟩

set_option maxHeartbeats 4000000 in
set_option maxRecDepth 100000 in
theorem OpsKinds_D0 (op : Int) (s : ByteArray) (hs : nameR op = s) (he : s.toList.isEmpty = false) (h1 : isR op = true) (h2 : innerR op = false) (h3 : nowR op = true) (h4 : onlyR op = false) (h5 : wideR op = false) (w : World) (ht : Tab w) : Calls Tryd.prog 6 #[.int .i64 op] w fun e w' => e = .returned (.bool true) ∧ Below w.heap.size w w' := by
  have HT := Lib.hid ht
  have HS := Lib.hid hs
  have HIs := Lib.hid h1
  have HInner := Lib.hid h2
  have HNow := Lib.hid h3
  have HOnly := Lib.hid h4
  have HWide := Lib.hid h5
  clear ht hs h1 h2 h3 h4 h5
  go_enter Tryd.func6, Tryd.ntmps6
  go_wp2_with fail
  refine (awake_any _ HT.out).mono ?_
  rintro e w1 ⟨rfl, hb⟩
  have HT1 := Lib.hid (HT.out.below hb)
  have HB1 := Lib.hid (hb)
  clear hb
  go_wp2_with fail
  refine (Now_any op _ _ HNow.out HT1.out).mono ?_
  rintro e w2 ⟨rfl, hb⟩
  have HT2 := Lib.hid (HT1.out.below hb)
  have HB2 := Lib.hid (below_two HB1.out hb)
  clear hb
  go_wp2_with fail
  refine (Is_any op _ _ HIs.out HT2.out).mono ?_
  rintro e w3 ⟨rfl, hb⟩
  have HT3 := Lib.hid (HT2.out.below hb)
  have HB3 := Lib.hid (below_two HB2.out hb)
  clear hb
  go_wp2_with fail
  refine (Wide_any op _ _ HWide.out HT3.out).mono ?_
  rintro e w4 ⟨rfl, hb⟩
  have HT4 := Lib.hid (HT3.out.below hb)
  have HB4 := Lib.hid (below_two HB3.out hb)
  clear hb
  go_wp2_with fail
  refine (Inner_any op _ _ HInner.out HT4.out).mono ?_
  rintro e w5 ⟨rfl, hb⟩
  have HT5 := Lib.hid (HT4.out.below hb)
  have HB5 := Lib.hid (below_two HB4.out hb)
  clear hb
  go_wp2_with fail
  refine (Name_any op s _ HS.out HT5.out).mono ?_
  rintro e w6 ⟨rfl, hb⟩
  have HT6 := Lib.hid (HT5.out.below hb)
  have HB6 := Lib.hid (below_two HB5.out hb)
  clear hb
  go_wp2_with fail
  refine (Is_any op _ _ HIs.out HT6.out).mono ?_
  rintro e w7 ⟨rfl, hb⟩
  have HT7 := Lib.hid (HT6.out.below hb)
  have HB7 := Lib.hid (below_two HB6.out hb)
  clear hb
  go_wp2
  go_ret
  exact ⟨rfl, HB7.out⟩

set_option maxHeartbeats 4000000 in
set_option maxRecDepth 100000 in
theorem OpsKinds_D1 (op : Int) (s : ByteArray) (hs : nameR op = s) (he : s.toList.isEmpty = false) (h1 : isR op = true) (h2 : innerR op = false) (h3 : nowR op = true) (h4 : onlyR op = true) (h5 : wideR op = false) (w : World) (ht : Tab w) : Calls Tryd.prog 6 #[.int .i64 op] w fun e w' => e = .returned (.bool true) ∧ Below w.heap.size w w' := by
  have HT := Lib.hid ht
  have HS := Lib.hid hs
  have HIs := Lib.hid h1
  have HInner := Lib.hid h2
  have HNow := Lib.hid h3
  have HOnly := Lib.hid h4
  have HWide := Lib.hid h5
  clear ht hs h1 h2 h3 h4 h5
  go_enter Tryd.func6, Tryd.ntmps6
  go_wp2_with fail
  refine (awake_any _ HT.out).mono ?_
  rintro e w1 ⟨rfl, hb⟩
  have HT1 := Lib.hid (HT.out.below hb)
  have HB1 := Lib.hid (hb)
  clear hb
  go_wp2_with fail
  refine (Now_any op _ _ HNow.out HT1.out).mono ?_
  rintro e w2 ⟨rfl, hb⟩
  have HT2 := Lib.hid (HT1.out.below hb)
  have HB2 := Lib.hid (below_two HB1.out hb)
  clear hb
  go_wp2_with fail
  refine (Is_any op _ _ HIs.out HT2.out).mono ?_
  rintro e w3 ⟨rfl, hb⟩
  have HT3 := Lib.hid (HT2.out.below hb)
  have HB3 := Lib.hid (below_two HB2.out hb)
  clear hb
  go_wp2_with fail
  refine (Wide_any op _ _ HWide.out HT3.out).mono ?_
  rintro e w4 ⟨rfl, hb⟩
  have HT4 := Lib.hid (HT3.out.below hb)
  have HB4 := Lib.hid (below_two HB3.out hb)
  clear hb
  go_wp2_with fail
  refine (Inner_any op _ _ HInner.out HT4.out).mono ?_
  rintro e w5 ⟨rfl, hb⟩
  have HT5 := Lib.hid (HT4.out.below hb)
  have HB5 := Lib.hid (below_two HB4.out hb)
  clear hb
  go_wp2_with fail
  refine (Name_any op s _ HS.out HT5.out).mono ?_
  rintro e w6 ⟨rfl, hb⟩
  have HT6 := Lib.hid (HT5.out.below hb)
  have HB6 := Lib.hid (below_two HB5.out hb)
  clear hb
  go_wp2_with fail
  refine (Is_any op _ _ HIs.out HT6.out).mono ?_
  rintro e w7 ⟨rfl, hb⟩
  have HT7 := Lib.hid (HT6.out.below hb)
  have HB7 := Lib.hid (below_two HB6.out hb)
  clear hb
  go_wp2
  go_ret
  exact ⟨rfl, HB7.out⟩

set_option maxHeartbeats 4000000 in
set_option maxRecDepth 100000 in
theorem OpsKinds_E (op : Int) (s : ByteArray) (hs : nameR op = s) (he : s.toList.isEmpty = false) (h1 : isR op = true) (h2 : innerR op = false) (h3 : nowR op = false) (h4 : onlyR op = true) (h5 : wideR op = false) (w : World) (ht : Tab w) : Calls Tryd.prog 6 #[.int .i64 op] w fun e w' => e = .returned (.bool true) ∧ Below w.heap.size w w' := by
  have HT := Lib.hid ht
  have HS := Lib.hid hs
  have HIs := Lib.hid h1
  have HInner := Lib.hid h2
  have HNow := Lib.hid h3
  have HOnly := Lib.hid h4
  have HWide := Lib.hid h5
  clear ht hs h1 h2 h3 h4 h5
  go_enter Tryd.func6, Tryd.ntmps6
  go_wp2_with fail
  refine (awake_any _ HT.out).mono ?_
  rintro e w1 ⟨rfl, hb⟩
  have HT1 := Lib.hid (HT.out.below hb)
  have HB1 := Lib.hid (hb)
  clear hb
  go_wp2_with fail
  refine (Now_any op _ _ HNow.out HT1.out).mono ?_
  rintro e w2 ⟨rfl, hb⟩
  have HT2 := Lib.hid (HT1.out.below hb)
  have HB2 := Lib.hid (below_two HB1.out hb)
  clear hb
  go_wp2_with fail
  refine (Only_any op _ _ HOnly.out HT2.out).mono ?_
  rintro e w3 ⟨rfl, hb⟩
  have HT3 := Lib.hid (HT2.out.below hb)
  have HB3 := Lib.hid (below_two HB2.out hb)
  clear hb
  go_wp2_with fail
  refine (Is_any op _ _ HIs.out HT3.out).mono ?_
  rintro e w4 ⟨rfl, hb⟩
  have HT4 := Lib.hid (HT3.out.below hb)
  have HB4 := Lib.hid (below_two HB3.out hb)
  clear hb
  go_wp2_with fail
  refine (Wide_any op _ _ HWide.out HT4.out).mono ?_
  rintro e w5 ⟨rfl, hb⟩
  have HT5 := Lib.hid (HT4.out.below hb)
  have HB5 := Lib.hid (below_two HB4.out hb)
  clear hb
  go_wp2_with fail
  refine (Inner_any op _ _ HInner.out HT5.out).mono ?_
  rintro e w6 ⟨rfl, hb⟩
  have HT6 := Lib.hid (HT5.out.below hb)
  have HB6 := Lib.hid (below_two HB5.out hb)
  clear hb
  go_wp2_with fail
  refine (Name_any op s _ HS.out HT6.out).mono ?_
  rintro e w7 ⟨rfl, hb⟩
  have HT7 := Lib.hid (HT6.out.below hb)
  have HB7 := Lib.hid (below_two HB6.out hb)
  clear hb
  go_wp2_with fail
  refine (Is_any op _ _ HIs.out HT7.out).mono ?_
  rintro e w8 ⟨rfl, hb⟩
  have HT8 := Lib.hid (HT7.out.below hb)
  have HB8 := Lib.hid (below_two HB7.out hb)
  clear hb
  go_wp2
  go_ret
  exact ⟨rfl, HB8.out⟩

set_option maxHeartbeats 4000000 in
set_option maxRecDepth 100000 in
theorem OpsKinds_F (op : Int) (s : ByteArray) (hs : nameR op = s) (he : s.toList.isEmpty = false) (h1 : isR op = true) (h2 : innerR op = false) (h3 : nowR op = false) (h4 : onlyR op = false) (h5 : wideR op = false) (w : World) (ht : Tab w) : Calls Tryd.prog 6 #[.int .i64 op] w fun e w' => e = .returned (.bool true) ∧ Below w.heap.size w w' := by
  have HT := Lib.hid ht
  have HS := Lib.hid hs
  have HIs := Lib.hid h1
  have HInner := Lib.hid h2
  have HNow := Lib.hid h3
  have HOnly := Lib.hid h4
  have HWide := Lib.hid h5
  clear ht hs h1 h2 h3 h4 h5
  go_enter Tryd.func6, Tryd.ntmps6
  go_wp2_with fail
  refine (awake_any _ HT.out).mono ?_
  rintro e w1 ⟨rfl, hb⟩
  have HT1 := Lib.hid (HT.out.below hb)
  have HB1 := Lib.hid (hb)
  clear hb
  go_wp2_with fail
  refine (Now_any op _ _ HNow.out HT1.out).mono ?_
  rintro e w2 ⟨rfl, hb⟩
  have HT2 := Lib.hid (HT1.out.below hb)
  have HB2 := Lib.hid (below_two HB1.out hb)
  clear hb
  go_wp2_with fail
  refine (Only_any op _ _ HOnly.out HT2.out).mono ?_
  rintro e w3 ⟨rfl, hb⟩
  have HT3 := Lib.hid (HT2.out.below hb)
  have HB3 := Lib.hid (below_two HB2.out hb)
  clear hb
  go_wp2_with fail
  refine (Wide_any op _ _ HWide.out HT3.out).mono ?_
  rintro e w4 ⟨rfl, hb⟩
  have HT4 := Lib.hid (HT3.out.below hb)
  have HB4 := Lib.hid (below_two HB3.out hb)
  clear hb
  go_wp2_with fail
  refine (Inner_any op _ _ HInner.out HT4.out).mono ?_
  rintro e w5 ⟨rfl, hb⟩
  have HT5 := Lib.hid (HT4.out.below hb)
  have HB5 := Lib.hid (below_two HB4.out hb)
  clear hb
  go_wp2_with fail
  refine (Wide_any op _ _ HWide.out HT5.out).mono ?_
  rintro e w6 ⟨rfl, hb⟩
  have HT6 := Lib.hid (HT5.out.below hb)
  have HB6 := Lib.hid (below_two HB5.out hb)
  clear hb
  go_wp2_with fail
  refine (Inner_any op _ _ HInner.out HT6.out).mono ?_
  rintro e w7 ⟨rfl, hb⟩
  have HT7 := Lib.hid (HT6.out.below hb)
  have HB7 := Lib.hid (below_two HB6.out hb)
  clear hb
  go_wp2_with fail
  refine (Name_any op s _ HS.out HT7.out).mono ?_
  rintro e w8 ⟨rfl, hb⟩
  have HT8 := Lib.hid (HT7.out.below hb)
  have HB8 := Lib.hid (below_two HB7.out hb)
  clear hb
  go_wp2_with fail
  refine (Is_any op _ _ HIs.out HT8.out).mono ?_
  rintro e w9 ⟨rfl, hb⟩
  have HT9 := Lib.hid (HT8.out.below hb)
  have HB9 := Lib.hid (below_two HB8.out hb)
  clear hb
  go_wp2
  go_ret
  exact ⟨rfl, HB9.out⟩

theorem OpsKinds_walk (op : Int) (w : World) (ht : Tab w) : Calls Tryd.prog 6 #[.int .i64 op] w fun e w' => e = .returned (.bool true) ∧ Below w.heap.size w w' := by
  have he := toList_empty (nameR op)
  cases h1 : isR op with
  | false =>
    obtain ⟨a, b, c, d⟩ := kinds_is h1
    rw [nameR_no (by simpa [isR] using h1)] at he
    exact OpsKinds_A op _ (nameR_no (by simpa [isR] using h1)) he h1 a b c d w ht
  | true =>
    have hp := name_some h1
    rw [decide_eq_false (by omega)] at he
    cases h2 : innerR op with
    | true =>
      obtain ⟨b, c⟩ := kinds_inner h2
      cases h5 : wideR op with
      | true => exact OpsKinds_B op _ rfl he h1 h2 b c h5 w ht
      | false => exact OpsKinds_C op _ rfl he h1 h2 b c h5 w ht
    | false =>
      have h5 := kinds_wide h2
      cases h3 : nowR op with
      | true =>
        cases h4 : onlyR op with
        | true => exact OpsKinds_D1 op _ rfl he h1 h2 h3 h4 h5 w ht
        | false => exact OpsKinds_D0 op _ rfl he h1 h2 h3 h4 h5 w ht
      | false =>
        cases h4 : onlyR op with
        | true => exact OpsKinds_E op _ rfl he h1 h2 h3 h4 h5 w ht
        | false => exact OpsKinds_F op _ rfl he h1 h2 h3 h4 h5 w ht

set_option maxHeartbeats 4000000 in
set_option maxRecDepth 100000 in
theorem OpsApart_walk (a b : Int) (ha : 0 ≤ a ∧ a < 256) (hb : 0 ≤ b ∧ b < 256) (w : World) (ht : Tab w) : Calls Tryd.prog 7 #[.int .u8 a, .int .u8 b] w fun e w' => e = .returned (.bool true) ∧ Below w.heap.size w w' := by
  have HT := Lib.hid ht
  clear ht
  obtain ⟨ha0, ha1⟩ := ha
  obtain ⟨hb0, hb1⟩ := hb
  have hx : (nameR (1 + a % 137) = nameR (1 + b % 137)) ↔ 1 + a % 137 = 1 + b % 137 := by
    constructor
    · intro h
      obtain ⟨j, hj⟩ := Int.eq_ofNat_of_zero_le (show 0 ≤ a % 137 by omega)
      obtain ⟨k, hk⟩ := Int.eq_ofNat_of_zero_le (show 0 ≤ b % 137 by omega)
      rw [hj, hk, Int.add_comm, Int.add_comm 1, nameR_at j (by omega), nameR_at k (by omega)] at h
      have := nm_apart (by omega) (by omega) h
      omega
    · intro h
      rw [h]
  obtain ⟨x, hxe⟩ : ∃ x, 1 + a % 137 = x := ⟨_, rfl⟩
  obtain ⟨y, hye⟩ : ∃ y, 1 + b % 137 = y := ⟨_, rfl⟩
  rw [hxe, hye] at hx
  have hxb : 1 ≤ x ∧ x ≤ 137 := by omega
  have hyb : 1 ≤ y ∧ y ≤ 137 := by omega
  obtain ⟨s, hs⟩ : ∃ s, nameR x = s := ⟨_, rfl⟩
  obtain ⟨t, ht⟩ : ∃ t, nameR y = t := ⟨_, rfl⟩
  rw [hs, ht] at hx
  have heq := eq_toList s t
  have HS := Lib.hid hs
  have HE := Lib.hid ht
  clear hs ht
  have HX := Lib.hid hxe
  have HY := Lib.hid hye
  clear hxe hye
  by_cases h : x = y
  · have h2 := hx.2 h
    rw [decide_eq_true h2] at heq
    have b1 : (x == y) = true := by simpa using h
    have B1 := Lib.hid b1
    clear hx h h2 b1
    go_enter Tryd.func7, Tryd.ntmps7
    go_wp2_with fail
    refine (awake_any _ HT.out).mono ?_
    rintro e w1 ⟨rfl, hb⟩
    have HT1 := Lib.hid (HT.out.below hb)
    have HB1 := Lib.hid (hb)
    clear hb
    go_wp2_with fail
    rw [HX.out, HY.out]
    refine (Name_any x s _ HS.out HT1.out).mono ?_
    rintro e w2 ⟨rfl, hb⟩
    have HT2 := Lib.hid (HT1.out.below hb)
    have HB2 := Lib.hid (below_two HB1.out hb)
    clear hb
    go_wp2_with fail
    refine (Name_any y t _ HE.out HT2.out).mono ?_
    rintro e w3 ⟨rfl, hb⟩
    have HT3 := Lib.hid (HT2.out.below hb)
    have HB3 := Lib.hid (below_two HB2.out hb)
    clear hb
    have b1 := B1.out
    go_wp2
    go_ret
    exact ⟨rfl, HB3.out⟩
  · have h2 : ¬ s = t := fun e => h (hx.1 e)
    rw [decide_eq_false h2] at heq
    have b1 : (x == y) = false := by simpa using h
    have B1 := Lib.hid b1
    clear hx h h2 b1
    go_enter Tryd.func7, Tryd.ntmps7
    go_wp2_with fail
    refine (awake_any _ HT.out).mono ?_
    rintro e w1 ⟨rfl, hb⟩
    have HT1 := Lib.hid (HT.out.below hb)
    have HB1 := Lib.hid (hb)
    clear hb
    go_wp2_with fail
    rw [HX.out, HY.out]
    refine (Name_any x s _ HS.out HT1.out).mono ?_
    rintro e w2 ⟨rfl, hb⟩
    have HT2 := Lib.hid (HT1.out.below hb)
    have HB2 := Lib.hid (below_two HB1.out hb)
    clear hb
    go_wp2_with fail
    refine (Name_any y t _ HE.out HT2.out).mono ?_
    rintro e w3 ⟨rfl, hb⟩
    have HT3 := Lib.hid (HT2.out.below hb)
    have HB3 := Lib.hid (below_two HB2.out hb)
    clear hb
    have b1 := B1.out
    go_wp2
    go_ret
    exact ⟨rfl, HB3.out⟩
end Go.Proofs.YtcnmdagbmngaeaaDoor
