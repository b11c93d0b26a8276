/- The walk of OpsBack. -/
import Derived.Test.YtcnmdagbmngaeaaDoorAwake08
import Derived.Test.YtcnmdagbmngaeaaDoorPlain08b
namespace Go.Proofs.YtcnmdagbmngaeaaDoor
open Go.RowKit

set_option maxHeartbeats 4000000 in
set_option maxRecDepth 100000 in
theorem OpsBack_T0 (op : Int) (name : ByteArray) (hn : name.size ≤ 60) (s : ByteArray) (hs : nameR op = s) (h1 : isR op = true) (h2 : innerR op = false) (hf : findR (foldB s) = op) (hk : findR (foldB name) = 0) (w : World) (ht : Tab w) : Calls Tryd.prog 5 #[.int .i64 op, .string name] w fun e w' => e = .returned (.bool true) ∧ Below w.heap.size w w' := by
  have HT := Lib.hid ht
  have HS := Lib.hid hs
  have hss : s.size ≤ 10 := by rw [← hs]; exact name_size _
  clear ht hs
  have H1 := Lib.hid h1
  have H2 := Lib.hid h2
  have Hf := Lib.hid hf
  have Hk := Lib.hid hk
  clear h1 h2 hf hk
  go_enter Tryd.func5, Tryd.ntmps5
  go_wp2_with fail
  refine (awake_any _ HT.out).mono ?_
  rintro e w1 ⟨rfl, hb⟩
  have HT1 := Lib.hid (HT.out.below hb)
  have HB1 := Lib.hid (hb)
  clear hb
  go_wp2_with fail
  refine (Find_any name 0 _ Hk.out (by omega) HT1.out).mono ?_
  rintro e w2 ⟨rfl, hb⟩
  have HT2 := Lib.hid (HT1.out.below hb)
  have HB2 := Lib.hid (below_two HB1.out hb)
  clear hb
  go_wp2_with fail
  refine (Is_any op _ _ H1.out HT2.out).mono ?_
  rintro e w3 ⟨rfl, hb⟩
  have HT3 := Lib.hid (HT2.out.below hb)
  have HB3 := Lib.hid (below_two HB2.out hb)
  clear hb
  go_wp2_with fail
  refine (Inner_any op _ _ H2.out HT3.out).mono ?_
  rintro e w4 ⟨rfl, hb⟩
  have HT4 := Lib.hid (HT3.out.below hb)
  have HB4 := Lib.hid (below_two HB3.out hb)
  clear hb
  go_wp2_with fail
  refine (Name_any op s _ HS.out HT4.out).mono ?_
  rintro e w5 ⟨rfl, hb⟩
  have HT5 := Lib.hid (HT4.out.below hb)
  have HB5 := Lib.hid (below_two HB4.out hb)
  clear hb
  go_wp2_with fail
  refine (Find_any s op _ Hf.out (by omega) HT5.out).mono ?_
  rintro e w6 ⟨rfl, hb⟩
  have HT6 := Lib.hid (HT5.out.below hb)
  have HB6 := Lib.hid (below_two HB5.out hb)
  clear hb
  go_wp2
  go_ret
  exact ⟨rfl, HB6.out⟩

set_option maxHeartbeats 4000000 in
set_option maxRecDepth 100000 in
theorem OpsBack_T1 (op : Int) (name : ByteArray) (hn : name.size ≤ 60) (s : ByteArray) (hs : nameR op = s) (h1 : isR op = true) (h2 : innerR op = false) (hf : findR (foldB s) = op) (c : Nat) (hc : c < 137) (hk : findR (foldB name) = (c : Int) + 1) (ha : isR ((c : Int) + 1) = true) (hb : innerR ((c : Int) + 1) = false) (hc : nameR ((c : Int) + 1) = foldB name) (w : World) (ht : Tab w) : Calls Tryd.prog 5 #[.int .i64 op, .string name] w fun e w' => e = .returned (.bool true) ∧ Below w.heap.size w w' := by
  have HT := Lib.hid ht
  have HS := Lib.hid hs
  have hss : s.size ≤ 10 := by rw [← hs]; exact name_size _
  clear ht hs
  have H1 := Lib.hid h1
  have H2 := Lib.hid h2
  have Hf := Lib.hid hf
  have Hk := Lib.hid hk
  have Ha := Lib.hid ha
  have Hb := Lib.hid hb
  have Hc := Lib.hid hc
  clear h1 h2 hf hk ha hb hc
  have hk0 : ((c : Int) + 1 == 0) = false := by simp; omega
  go_enter Tryd.func5, Tryd.ntmps5
  go_wp2_with fail
  refine (awake_any _ HT.out).mono ?_
  rintro e w1 ⟨rfl, hb⟩
  have HT1 := Lib.hid (HT.out.below hb)
  have HB1 := Lib.hid (hb)
  clear hb
  go_wp2_with fail
  refine (Find_any name ((c : Int) + 1) _ Hk.out (by omega) HT1.out).mono ?_
  rintro e w2 ⟨rfl, hb⟩
  have HT2 := Lib.hid (HT1.out.below hb)
  have HB2 := Lib.hid (below_two HB1.out hb)
  clear hb
  go_wp2_with fail
  refine (Is_any op _ _ H1.out HT2.out).mono ?_
  rintro e w3 ⟨rfl, hb⟩
  have HT3 := Lib.hid (HT2.out.below hb)
  have HB3 := Lib.hid (below_two HB2.out hb)
  clear hb
  go_wp2_with fail
  refine (Inner_any op _ _ H2.out HT3.out).mono ?_
  rintro e w4 ⟨rfl, hb⟩
  have HT4 := Lib.hid (HT3.out.below hb)
  have HB4 := Lib.hid (below_two HB3.out hb)
  clear hb
  go_wp2_with fail
  refine (Name_any op s _ HS.out HT4.out).mono ?_
  rintro e w5 ⟨rfl, hb⟩
  have HT5 := Lib.hid (HT4.out.below hb)
  have HB5 := Lib.hid (below_two HB4.out hb)
  clear hb
  go_wp2_with fail
  refine (Find_any s op _ Hf.out (by omega) HT5.out).mono ?_
  rintro e w6 ⟨rfl, hb⟩
  have HT6 := Lib.hid (HT5.out.below hb)
  have HB6 := Lib.hid (below_two HB5.out hb)
  clear hb
  go_wp2_with fail
  refine (Is_any ((c : Int) + 1) true _ Ha.out HT6.out).mono ?_
  rintro e w7 ⟨rfl, hb⟩
  have HT7 := Lib.hid (HT6.out.below hb)
  have HB7 := Lib.hid (below_two HB6.out hb)
  clear hb
  go_wp2_with fail
  refine (Inner_any ((c : Int) + 1) false _ Hb.out HT7.out).mono ?_
  rintro e w8 ⟨rfl, hb⟩
  have HT8 := Lib.hid (HT7.out.below hb)
  have HB8 := Lib.hid (below_two HB7.out hb)
  clear hb
  go_wp2_with fail
  refine (Name_any ((c : Int) + 1) (foldB name) _ Hc.out HT8.out).mono ?_
  rintro e w9 ⟨rfl, hb⟩
  have HT9 := Lib.hid (HT8.out.below hb)
  have HB9 := Lib.hid (below_two HB8.out hb)
  clear hb
  go_wp2_with fail
  refine (RFold_any name _ (by omega)).mono ?_
  rintro e w10 ⟨rfl, hb⟩
  have HT10 := Lib.hid (HT9.out.below hb)
  have HB10 := Lib.hid (below_two HB9.out hb)
  clear hb
  go_wp2
  go_ret
  exact ⟨rfl, HB10.out⟩

set_option maxHeartbeats 4000000 in
set_option maxRecDepth 100000 in
theorem OpsBack_I0 (op : Int) (name : ByteArray) (hn : name.size ≤ 60) (s : ByteArray) (hs : nameR op = s) (h1 : isR op = true) (h2 : innerR op = true) (hf : findR (foldB s) = 0) (hk : findR (foldB name) = 0) (hz : ((0 : Int) == op) = false) (w : World) (ht : Tab w) : Calls Tryd.prog 5 #[.int .i64 op, .string name] w fun e w' => e = .returned (.bool true) ∧ Below w.heap.size w w' := by
  have HT := Lib.hid ht
  have HS := Lib.hid hs
  have hss : s.size ≤ 10 := by rw [← hs]; exact name_size _
  clear ht hs
  have H1 := Lib.hid h1
  have H2 := Lib.hid h2
  have Hf := Lib.hid hf
  have Hk := Lib.hid hk
  clear h1 h2 hf hk
  go_enter Tryd.func5, Tryd.ntmps5
  go_wp2_with fail
  refine (awake_any _ HT.out).mono ?_
  rintro e w1 ⟨rfl, hb⟩
  have HT1 := Lib.hid (HT.out.below hb)
  have HB1 := Lib.hid (hb)
  clear hb
  go_wp2_with fail
  refine (Find_any name 0 _ Hk.out (by omega) HT1.out).mono ?_
  rintro e w2 ⟨rfl, hb⟩
  have HT2 := Lib.hid (HT1.out.below hb)
  have HB2 := Lib.hid (below_two HB1.out hb)
  clear hb
  go_wp2_with fail
  refine (Is_any op _ _ H1.out HT2.out).mono ?_
  rintro e w3 ⟨rfl, hb⟩
  have HT3 := Lib.hid (HT2.out.below hb)
  have HB3 := Lib.hid (below_two HB2.out hb)
  clear hb
  go_wp2_with fail
  refine (Inner_any op _ _ H2.out HT3.out).mono ?_
  rintro e w4 ⟨rfl, hb⟩
  have HT4 := Lib.hid (HT3.out.below hb)
  have HB4 := Lib.hid (below_two HB3.out hb)
  clear hb
  go_wp2_with fail
  refine (Name_any op s _ HS.out HT4.out).mono ?_
  rintro e w5 ⟨rfl, hb⟩
  have HT5 := Lib.hid (HT4.out.below hb)
  have HB5 := Lib.hid (below_two HB4.out hb)
  clear hb
  go_wp2_with fail
  refine (Find_any s 0 _ Hf.out (by omega) HT5.out).mono ?_
  rintro e w6 ⟨rfl, hb⟩
  have HT6 := Lib.hid (HT5.out.below hb)
  have HB6 := Lib.hid (below_two HB5.out hb)
  clear hb
  go_wp2_with fail
  refine (Name_any op s _ HS.out HT6.out).mono ?_
  rintro e w7 ⟨rfl, hb⟩
  have HT7 := Lib.hid (HT6.out.below hb)
  have HB7 := Lib.hid (below_two HB6.out hb)
  clear hb
  go_wp2_with fail
  refine (Find_any s 0 _ Hf.out (by omega) HT7.out).mono ?_
  rintro e w8 ⟨rfl, hb⟩
  have HT8 := Lib.hid (HT7.out.below hb)
  have HB8 := Lib.hid (below_two HB7.out hb)
  clear hb
  go_wp2
  go_ret
  exact ⟨rfl, HB8.out⟩

set_option maxHeartbeats 4000000 in
set_option maxRecDepth 100000 in
theorem OpsBack_I1 (op : Int) (name : ByteArray) (hn : name.size ≤ 60) (s : ByteArray) (hs : nameR op = s) (h1 : isR op = true) (h2 : innerR op = true) (hf : findR (foldB s) = 0) (c : Nat) (hc : c < 137) (hk : findR (foldB name) = (c : Int) + 1) (ha : isR ((c : Int) + 1) = true) (hb : innerR ((c : Int) + 1) = false) (hc : nameR ((c : Int) + 1) = foldB name) (hz : ((0 : Int) == op) = false) (w : World) (ht : Tab w) : Calls Tryd.prog 5 #[.int .i64 op, .string name] w fun e w' => e = .returned (.bool true) ∧ Below w.heap.size w w' := by
  have HT := Lib.hid ht
  have HS := Lib.hid hs
  have hss : s.size ≤ 10 := by rw [← hs]; exact name_size _
  clear ht hs
  have H1 := Lib.hid h1
  have H2 := Lib.hid h2
  have Hf := Lib.hid hf
  have Hk := Lib.hid hk
  have Ha := Lib.hid ha
  have Hb := Lib.hid hb
  have Hc := Lib.hid hc
  clear h1 h2 hf hk ha hb hc
  have hk0 : ((c : Int) + 1 == 0) = false := by simp; omega
  go_enter Tryd.func5, Tryd.ntmps5
  go_wp2_with fail
  refine (awake_any _ HT.out).mono ?_
  rintro e w1 ⟨rfl, hb⟩
  have HT1 := Lib.hid (HT.out.below hb)
  have HB1 := Lib.hid (hb)
  clear hb
  go_wp2_with fail
  refine (Find_any name ((c : Int) + 1) _ Hk.out (by omega) HT1.out).mono ?_
  rintro e w2 ⟨rfl, hb⟩
  have HT2 := Lib.hid (HT1.out.below hb)
  have HB2 := Lib.hid (below_two HB1.out hb)
  clear hb
  go_wp2_with fail
  refine (Is_any op _ _ H1.out HT2.out).mono ?_
  rintro e w3 ⟨rfl, hb⟩
  have HT3 := Lib.hid (HT2.out.below hb)
  have HB3 := Lib.hid (below_two HB2.out hb)
  clear hb
  go_wp2_with fail
  refine (Inner_any op _ _ H2.out HT3.out).mono ?_
  rintro e w4 ⟨rfl, hb⟩
  have HT4 := Lib.hid (HT3.out.below hb)
  have HB4 := Lib.hid (below_two HB3.out hb)
  clear hb
  go_wp2_with fail
  refine (Name_any op s _ HS.out HT4.out).mono ?_
  rintro e w5 ⟨rfl, hb⟩
  have HT5 := Lib.hid (HT4.out.below hb)
  have HB5 := Lib.hid (below_two HB4.out hb)
  clear hb
  go_wp2_with fail
  refine (Find_any s 0 _ Hf.out (by omega) HT5.out).mono ?_
  rintro e w6 ⟨rfl, hb⟩
  have HT6 := Lib.hid (HT5.out.below hb)
  have HB6 := Lib.hid (below_two HB5.out hb)
  clear hb
  go_wp2_with fail
  refine (Name_any op s _ HS.out HT6.out).mono ?_
  rintro e w7 ⟨rfl, hb⟩
  have HT7 := Lib.hid (HT6.out.below hb)
  have HB7 := Lib.hid (below_two HB6.out hb)
  clear hb
  go_wp2_with fail
  refine (Find_any s 0 _ Hf.out (by omega) HT7.out).mono ?_
  rintro e w8 ⟨rfl, hb⟩
  have HT8 := Lib.hid (HT7.out.below hb)
  have HB8 := Lib.hid (below_two HB7.out hb)
  clear hb
  go_wp2_with fail
  refine (Is_any ((c : Int) + 1) true _ Ha.out HT8.out).mono ?_
  rintro e w9 ⟨rfl, hb⟩
  have HT9 := Lib.hid (HT8.out.below hb)
  have HB9 := Lib.hid (below_two HB8.out hb)
  clear hb
  go_wp2_with fail
  refine (Inner_any ((c : Int) + 1) false _ Hb.out HT9.out).mono ?_
  rintro e w10 ⟨rfl, hb⟩
  have HT10 := Lib.hid (HT9.out.below hb)
  have HB10 := Lib.hid (below_two HB9.out hb)
  clear hb
  go_wp2_with fail
  refine (Name_any ((c : Int) + 1) (foldB name) _ Hc.out HT10.out).mono ?_
  rintro e w11 ⟨rfl, hb⟩
  have HT11 := Lib.hid (HT10.out.below hb)
  have HB11 := Lib.hid (below_two HB10.out hb)
  clear hb
  go_wp2_with fail
  refine (RFold_any name _ (by omega)).mono ?_
  rintro e w12 ⟨rfl, hb⟩
  have HT12 := Lib.hid (HT11.out.below hb)
  have HB12 := Lib.hid (below_two HB11.out hb)
  clear hb
  go_wp2
  go_ret
  exact ⟨rfl, HB12.out⟩

set_option maxHeartbeats 4000000 in
set_option maxRecDepth 100000 in
theorem OpsBack_N0 (op : Int) (name : ByteArray) (hn : name.size ≤ 60) (s : ByteArray) (hs : nameR op = s) (h1 : isR op = false) (hf : findR (foldB s) = 0) (hk : findR (foldB name) = 0) (hz : ((0 : Int) == op) = false) (w : World) (ht : Tab w) : Calls Tryd.prog 5 #[.int .i64 op, .string name] w fun e w' => e = .returned (.bool true) ∧ Below w.heap.size w w' := by
  have HT := Lib.hid ht
  have HS := Lib.hid hs
  have hss : s.size ≤ 10 := by rw [← hs]; exact name_size _
  clear ht hs
  have H1 := Lib.hid h1
  have Hf := Lib.hid hf
  have Hk := Lib.hid hk
  clear h1 hf hk
  go_enter Tryd.func5, Tryd.ntmps5
  go_wp2_with fail
  refine (awake_any _ HT.out).mono ?_
  rintro e w1 ⟨rfl, hb⟩
  have HT1 := Lib.hid (HT.out.below hb)
  have HB1 := Lib.hid (hb)
  clear hb
  go_wp2_with fail
  refine (Find_any name 0 _ Hk.out (by omega) HT1.out).mono ?_
  rintro e w2 ⟨rfl, hb⟩
  have HT2 := Lib.hid (HT1.out.below hb)
  have HB2 := Lib.hid (below_two HB1.out hb)
  clear hb
  go_wp2_with fail
  refine (Is_any op _ _ H1.out HT2.out).mono ?_
  rintro e w3 ⟨rfl, hb⟩
  have HT3 := Lib.hid (HT2.out.below hb)
  have HB3 := Lib.hid (below_two HB2.out hb)
  clear hb
  go_wp2_with fail
  refine (Name_any op s _ HS.out HT3.out).mono ?_
  rintro e w4 ⟨rfl, hb⟩
  have HT4 := Lib.hid (HT3.out.below hb)
  have HB4 := Lib.hid (below_two HB3.out hb)
  clear hb
  go_wp2_with fail
  refine (Find_any s 0 _ Hf.out (by omega) HT4.out).mono ?_
  rintro e w5 ⟨rfl, hb⟩
  have HT5 := Lib.hid (HT4.out.below hb)
  have HB5 := Lib.hid (below_two HB4.out hb)
  clear hb
  go_wp2_with fail
  refine (Name_any op s _ HS.out HT5.out).mono ?_
  rintro e w6 ⟨rfl, hb⟩
  have HT6 := Lib.hid (HT5.out.below hb)
  have HB6 := Lib.hid (below_two HB5.out hb)
  clear hb
  go_wp2_with fail
  refine (Find_any s 0 _ Hf.out (by omega) HT6.out).mono ?_
  rintro e w7 ⟨rfl, hb⟩
  have HT7 := Lib.hid (HT6.out.below hb)
  have HB7 := Lib.hid (below_two HB6.out hb)
  clear hb
  go_wp2
  go_ret
  exact ⟨rfl, HB7.out⟩

set_option maxHeartbeats 4000000 in
set_option maxRecDepth 100000 in
theorem OpsBack_N1 (op : Int) (name : ByteArray) (hn : name.size ≤ 60) (s : ByteArray) (hs : nameR op = s) (h1 : isR op = false) (hf : findR (foldB s) = 0) (c : Nat) (hc : c < 137) (hk : findR (foldB name) = (c : Int) + 1) (ha : isR ((c : Int) + 1) = true) (hb : innerR ((c : Int) + 1) = false) (hc : nameR ((c : Int) + 1) = foldB name) (hz : ((0 : Int) == op) = false) (w : World) (ht : Tab w) : Calls Tryd.prog 5 #[.int .i64 op, .string name] w fun e w' => e = .returned (.bool true) ∧ Below w.heap.size w w' := by
  have HT := Lib.hid ht
  have HS := Lib.hid hs
  have hss : s.size ≤ 10 := by rw [← hs]; exact name_size _
  clear ht hs
  have H1 := Lib.hid h1
  have Hf := Lib.hid hf
  have Hk := Lib.hid hk
  have Ha := Lib.hid ha
  have Hb := Lib.hid hb
  have Hc := Lib.hid hc
  clear h1 hf hk ha hb hc
  have hk0 : ((c : Int) + 1 == 0) = false := by simp; omega
  go_enter Tryd.func5, Tryd.ntmps5
  go_wp2_with fail
  refine (awake_any _ HT.out).mono ?_
  rintro e w1 ⟨rfl, hb⟩
  have HT1 := Lib.hid (HT.out.below hb)
  have HB1 := Lib.hid (hb)
  clear hb
  go_wp2_with fail
  refine (Find_any name ((c : Int) + 1) _ Hk.out (by omega) HT1.out).mono ?_
  rintro e w2 ⟨rfl, hb⟩
  have HT2 := Lib.hid (HT1.out.below hb)
  have HB2 := Lib.hid (below_two HB1.out hb)
  clear hb
  go_wp2_with fail
  refine (Is_any op _ _ H1.out HT2.out).mono ?_
  rintro e w3 ⟨rfl, hb⟩
  have HT3 := Lib.hid (HT2.out.below hb)
  have HB3 := Lib.hid (below_two HB2.out hb)
  clear hb
  go_wp2_with fail
  refine (Name_any op s _ HS.out HT3.out).mono ?_
  rintro e w4 ⟨rfl, hb⟩
  have HT4 := Lib.hid (HT3.out.below hb)
  have HB4 := Lib.hid (below_two HB3.out hb)
  clear hb
  go_wp2_with fail
  refine (Find_any s 0 _ Hf.out (by omega) HT4.out).mono ?_
  rintro e w5 ⟨rfl, hb⟩
  have HT5 := Lib.hid (HT4.out.below hb)
  have HB5 := Lib.hid (below_two HB4.out hb)
  clear hb
  go_wp2_with fail
  refine (Name_any op s _ HS.out HT5.out).mono ?_
  rintro e w6 ⟨rfl, hb⟩
  have HT6 := Lib.hid (HT5.out.below hb)
  have HB6 := Lib.hid (below_two HB5.out hb)
  clear hb
  go_wp2_with fail
  refine (Find_any s 0 _ Hf.out (by omega) HT6.out).mono ?_
  rintro e w7 ⟨rfl, hb⟩
  have HT7 := Lib.hid (HT6.out.below hb)
  have HB7 := Lib.hid (below_two HB6.out hb)
  clear hb
  go_wp2_with fail
  refine (Is_any ((c : Int) + 1) true _ Ha.out HT7.out).mono ?_
  rintro e w8 ⟨rfl, hb⟩
  have HT8 := Lib.hid (HT7.out.below hb)
  have HB8 := Lib.hid (below_two HB7.out hb)
  clear hb
  go_wp2_with fail
  refine (Inner_any ((c : Int) + 1) false _ Hb.out HT8.out).mono ?_
  rintro e w9 ⟨rfl, hb⟩
  have HT9 := Lib.hid (HT8.out.below hb)
  have HB9 := Lib.hid (below_two HB8.out hb)
  clear hb
  go_wp2_with fail
  refine (Name_any ((c : Int) + 1) (foldB name) _ Hc.out HT9.out).mono ?_
  rintro e w10 ⟨rfl, hb⟩
  have HT10 := Lib.hid (HT9.out.below hb)
  have HB10 := Lib.hid (below_two HB9.out hb)
  clear hb
  go_wp2_with fail
  refine (RFold_any name _ (by omega)).mono ?_
  rintro e w11 ⟨rfl, hb⟩
  have HT11 := Lib.hid (HT10.out.below hb)
  have HB11 := Lib.hid (below_two HB10.out hb)
  clear hb
  go_wp2
  go_ret
  exact ⟨rfl, HB11.out⟩

set_option maxHeartbeats 4000000 in
set_option maxRecDepth 100000 in
theorem OpsBack_Nz0 (name : ByteArray) (hn : name.size ≤ 60) (s : ByteArray) (hs : nameR 0 = s) (h1 : isR 0 = false) (hf : findR (foldB s) = 0) (hk : findR (foldB name) = 0) (w : World) (ht : Tab w) : Calls Tryd.prog 5 #[.int .i64 0, .string name] w fun e w' => e = .returned (.bool true) ∧ Below w.heap.size w w' := by
  have HT := Lib.hid ht
  have HS := Lib.hid hs
  have hss : s.size ≤ 10 := by rw [← hs]; exact name_size _
  clear ht hs
  have H1 := Lib.hid h1
  have Hf := Lib.hid hf
  have Hk := Lib.hid hk
  clear h1 hf hk
  go_enter Tryd.func5, Tryd.ntmps5
  go_wp2_with fail
  refine (awake_any _ HT.out).mono ?_
  rintro e w1 ⟨rfl, hb⟩
  have HT1 := Lib.hid (HT.out.below hb)
  have HB1 := Lib.hid (hb)
  clear hb
  go_wp2_with fail
  refine (Find_any name 0 _ Hk.out (by omega) HT1.out).mono ?_
  rintro e w2 ⟨rfl, hb⟩
  have HT2 := Lib.hid (HT1.out.below hb)
  have HB2 := Lib.hid (below_two HB1.out hb)
  clear hb
  go_wp2_with fail
  refine (Is_any 0 _ _ H1.out HT2.out).mono ?_
  rintro e w3 ⟨rfl, hb⟩
  have HT3 := Lib.hid (HT2.out.below hb)
  have HB3 := Lib.hid (below_two HB2.out hb)
  clear hb
  go_wp2_with fail
  refine (Name_any 0 s _ HS.out HT3.out).mono ?_
  rintro e w4 ⟨rfl, hb⟩
  have HT4 := Lib.hid (HT3.out.below hb)
  have HB4 := Lib.hid (below_two HB3.out hb)
  clear hb
  go_wp2_with fail
  refine (Find_any s 0 _ Hf.out (by omega) HT4.out).mono ?_
  rintro e w5 ⟨rfl, hb⟩
  have HT5 := Lib.hid (HT4.out.below hb)
  have HB5 := Lib.hid (below_two HB4.out hb)
  clear hb
  go_wp2_with fail
  refine (Name_any 0 s _ HS.out HT5.out).mono ?_
  rintro e w6 ⟨rfl, hb⟩
  have HT6 := Lib.hid (HT5.out.below hb)
  have HB6 := Lib.hid (below_two HB5.out hb)
  clear hb
  go_wp2_with fail
  refine (Find_any s 0 _ Hf.out (by omega) HT6.out).mono ?_
  rintro e w7 ⟨rfl, hb⟩
  have HT7 := Lib.hid (HT6.out.below hb)
  have HB7 := Lib.hid (below_two HB6.out hb)
  clear hb
  go_wp2
  go_ret
  exact ⟨rfl, HB7.out⟩

set_option maxHeartbeats 4000000 in
set_option maxRecDepth 100000 in
theorem OpsBack_Nz1 (name : ByteArray) (hn : name.size ≤ 60) (s : ByteArray) (hs : nameR 0 = s) (h1 : isR 0 = false) (hf : findR (foldB s) = 0) (c : Nat) (hc : c < 137) (hk : findR (foldB name) = (c : Int) + 1) (ha : isR ((c : Int) + 1) = true) (hb : innerR ((c : Int) + 1) = false) (hc : nameR ((c : Int) + 1) = foldB name) (w : World) (ht : Tab w) : Calls Tryd.prog 5 #[.int .i64 0, .string name] w fun e w' => e = .returned (.bool true) ∧ Below w.heap.size w w' := by
  have HT := Lib.hid ht
  have HS := Lib.hid hs
  have hss : s.size ≤ 10 := by rw [← hs]; exact name_size _
  clear ht hs
  have H1 := Lib.hid h1
  have Hf := Lib.hid hf
  have Hk := Lib.hid hk
  have Ha := Lib.hid ha
  have Hb := Lib.hid hb
  have Hc := Lib.hid hc
  clear h1 hf hk ha hb hc
  have hk0 : ((c : Int) + 1 == 0) = false := by simp; omega
  go_enter Tryd.func5, Tryd.ntmps5
  go_wp2_with fail
  refine (awake_any _ HT.out).mono ?_
  rintro e w1 ⟨rfl, hb⟩
  have HT1 := Lib.hid (HT.out.below hb)
  have HB1 := Lib.hid (hb)
  clear hb
  go_wp2_with fail
  refine (Find_any name ((c : Int) + 1) _ Hk.out (by omega) HT1.out).mono ?_
  rintro e w2 ⟨rfl, hb⟩
  have HT2 := Lib.hid (HT1.out.below hb)
  have HB2 := Lib.hid (below_two HB1.out hb)
  clear hb
  go_wp2_with fail
  refine (Is_any 0 _ _ H1.out HT2.out).mono ?_
  rintro e w3 ⟨rfl, hb⟩
  have HT3 := Lib.hid (HT2.out.below hb)
  have HB3 := Lib.hid (below_two HB2.out hb)
  clear hb
  go_wp2_with fail
  refine (Name_any 0 s _ HS.out HT3.out).mono ?_
  rintro e w4 ⟨rfl, hb⟩
  have HT4 := Lib.hid (HT3.out.below hb)
  have HB4 := Lib.hid (below_two HB3.out hb)
  clear hb
  go_wp2_with fail
  refine (Find_any s 0 _ Hf.out (by omega) HT4.out).mono ?_
  rintro e w5 ⟨rfl, hb⟩
  have HT5 := Lib.hid (HT4.out.below hb)
  have HB5 := Lib.hid (below_two HB4.out hb)
  clear hb
  go_wp2_with fail
  refine (Name_any 0 s _ HS.out HT5.out).mono ?_
  rintro e w6 ⟨rfl, hb⟩
  have HT6 := Lib.hid (HT5.out.below hb)
  have HB6 := Lib.hid (below_two HB5.out hb)
  clear hb
  go_wp2_with fail
  refine (Find_any s 0 _ Hf.out (by omega) HT6.out).mono ?_
  rintro e w7 ⟨rfl, hb⟩
  have HT7 := Lib.hid (HT6.out.below hb)
  have HB7 := Lib.hid (below_two HB6.out hb)
  clear hb
  go_wp2_with fail
  refine (Is_any ((c : Int) + 1) true _ Ha.out HT7.out).mono ?_
  rintro e w8 ⟨rfl, hb⟩
  have HT8 := Lib.hid (HT7.out.below hb)
  have HB8 := Lib.hid (below_two HB7.out hb)
  clear hb
  go_wp2_with fail
  refine (Inner_any ((c : Int) + 1) false _ Hb.out HT8.out).mono ?_
  rintro e w9 ⟨rfl, hb⟩
  have HT9 := Lib.hid (HT8.out.below hb)
  have HB9 := Lib.hid (below_two HB8.out hb)
  clear hb
  go_wp2_with fail
  refine (Name_any ((c : Int) + 1) (foldB name) _ Hc.out HT9.out).mono ?_
  rintro e w10 ⟨rfl, hb⟩
  have HT10 := Lib.hid (HT9.out.below hb)
  have HB10 := Lib.hid (below_two HB9.out hb)
  clear hb
  go_wp2_with fail
  refine (RFold_any name _ (by omega)).mono ?_
  rintro e w11 ⟨rfl, hb⟩
  have HT11 := Lib.hid (HT10.out.below hb)
  have HB11 := Lib.hid (below_two HB10.out hb)
  clear hb
  go_wp2
  go_ret
  exact ⟨rfl, HB11.out⟩

set_option maxHeartbeats 1000000 in
set_option maxRecDepth 100000 in
theorem OpsBack_long (op : Int) (name : ByteArray) (hn : 60 < name.size) (hs : name.size ≤ maxLen) (w : World) (ht : Tab w) : Calls Tryd.prog 5 #[.int .i64 op, .string name] w fun e w' => e = .returned (.bool true) ∧ Below w.heap.size w w' := by
  have HT := Lib.hid ht
  clear ht
  unfold maxLen at hs
  go_enter Tryd.func5, Tryd.ntmps5
  go_wp2_with fail
  refine (awake_any _ HT.out).mono ?_
  rintro e w1 ⟨rfl, hb⟩
  have HT1 := Lib.hid (HT.out.below hb)
  have HB1 := Lib.hid (hb)
  clear hb
  go_wp2
  go_ret
  exact ⟨rfl, HB1.out⟩

theorem OpsBack_walk (op : Int) (name : ByteArray) (hs : name.size ≤ maxLen) (w : World) (ht : Tab w) : Calls Tryd.prog 5 #[.int .i64 op, .string name] w fun e w' => e = .returned (.bool true) ∧ Below w.heap.size w w' := by
  by_cases hn : 60 < name.size
  · exact OpsBack_long op name hn hs w ht
  have hn : name.size ≤ 60 := by omega
  rcases find_form (foldB name) with hk | ⟨c, hc, hk, ha, hb, hcn⟩
  · cases h1 : isR op with
    | true =>
      cases h2 : innerR op with
      | true =>
        have hz : ((0 : Int) == op) = false := by simp [isR] at h1; simp; omega
        exact OpsBack_I0 op name hn _ rfl h1 h2 (find_inner h1 h2) hk hz w ht
      | false => exact OpsBack_T0 op name hn _ rfl h1 h2 (find_there h1 h2) hk w ht
    | false =>
      by_cases hz : op = 0
      · subst hz
        exact OpsBack_Nz0 name hn _ rfl h1 (find_not h1) hk w ht
      · exact OpsBack_N0 op name hn _ rfl h1 (find_not h1) hk (by simp; omega) w ht
  · cases h1 : isR op with
    | true =>
      cases h2 : innerR op with
      | true =>
        have hz : ((0 : Int) == op) = false := by simp [isR] at h1; simp; omega
        exact OpsBack_I1 op name hn _ rfl h1 h2 (find_inner h1 h2) c hc hk ha hb hcn hz w ht
      | false => exact OpsBack_T1 op name hn _ rfl h1 h2 (find_there h1 h2) c hc hk ha hb hcn w ht
    | false =>
      by_cases hz : op = 0
      · subst hz
        exact OpsBack_Nz1 name hn _ rfl h1 (find_not h1) c hc hk ha hb hcn w ht
      · exact OpsBack_N1 op name hn _ rfl h1 (find_not h1) c hc hk ha hb hcn (by simp; omega) w ht
end Go.Proofs.YtcnmdagbmngaeaaDoor
