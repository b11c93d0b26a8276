/- The walks of the laws of nostoslaw04. -/
import Derived.Test.YtfoolkidcdoicaaAwake04
namespace Go.Proofs.Ytfoolkidcdoicaa
open Go.RowKit

/-- append([]int{}, l...) -/
theorem own_new (w : World) : (w.alloc (.cells #[] 3)).ownsRow w.heap.size 3 1 (.slice (some ⟨w.heap.size, 0, none⟩) 0 0) 0 [] := own_empty (heap_alloc_new _ _) (Nat.le_refl _)

set_option maxHeartbeats 1000000 in
set_option maxRecDepth 100000 in
theorem StackPushes_walk (A B : Option Addr) (c cb : Nat) (d : Int) (l v : List Int) (w : World) (hx : RdI w .i64 A c l) (hy : RdI w .i64 B cb v) (hd : d ≤ 9223372036854775807) :
    Calls Try.prog 3 #[.slice A l.length c, .int .i64 d, .slice B v.length cb] w fun e w' => e = .returned (.bool true) ∧ Below w.heap.size w w' := by
  have HX := Lib.hid hx
  have HY := Lib.hid hy
  clear hx hy
  go_enter Try.func3, Try.ntmps3
  go_wp2_with fail
  refine (awake_any w).mono ?_
  rintro e w1 ⟨rfl, hb⟩
  (replace HX := Lib.hid (Rd.below (Hid.out HX) hb); replace HY := Lib.hid (Rd.below (Hid.out HY) hb))
  have HB := Lib.hid hb
  clear hb
  by_cases h1 : 60 < l.length
  · go_wp2
    go_ret
    exact ⟨rfl, HB.out⟩
  by_cases h2 : 60 < v.length
  · go_wp2
    go_ret
    exact ⟨rfl, HB.out⟩
  have hb := below_lit w1 (.cells #[] 3)
  have HO := Lib.hid (own_new w1)
  have HX1 := Lib.hid (HX.out.below hb)
  have HB1 := Lib.hid hb
  clear hb
  go_wp2_with (refine wp_app (w0 := w1) rfl (.tmp 29) (.tmp 30) 22 3 (.int .i64 0) 1 8 rfl Try.underlying22 infoInt rfl (by decide) (by decide) w1.heap.size _ 0 [] rfl HO.out A l.length c (nums .i64 l) rfl HX1.out (nums_one _ _) (by omega) HB1.out.size HB1.out ?_)
  intro v1 w2 ho hb _
  obtain ⟨D, cd, rfl, hr⟩ := Rd.own ho
  (replace HX := Lib.hid (Rd.below (Hid.out HX) hb); replace HY := Lib.hid (Rd.below (Hid.out HY) hb))
  have HW := Lib.hid hr
  have HB := Lib.hid (below_two HB.out hb)
  clear hb hr ho HO HX1 HB1
  go_wp2_with fail
  refine (Push_is A B c cb d l v w2 _ _ _ _ rfl rfl rfl rfl HX.out HY.out (by omega)).mono ?_
  rintro e w3 ⟨A1, c1, rfl, hr, hb⟩
  (replace HX := Lib.hid (Rd.below (Hid.out HX) hb); replace HY := Lib.hid (Rd.below (Hid.out HY) hb); replace HW := Lib.hid (Rd.below (Hid.out HW) hb))
  have HB := Lib.hid (below_two HB.out hb)
  have R1 := Lib.hid hr
  clear hb hr
  go_wp2_with fail
  refine (RPush_is A B c cb d l v w3 _ _ _ _ rfl rfl rfl rfl HX.out HY.out (by omega)).mono ?_
  rintro e w4 ⟨A2, c2, rfl, hr, hb⟩
  (replace HX := Lib.hid (Rd.below (Hid.out HX) hb); replace HY := Lib.hid (Rd.below (Hid.out HY) hb); replace HW := Lib.hid (Rd.below (Hid.out HW) hb); replace R1 := Lib.hid (Rd.below (Hid.out R1) hb))
  have HB := Lib.hid (below_two HB.out hb)
  have R2 := Lib.hid hr
  clear hb hr
  go_wp2_with fail
  refine (Pop_is A c d l w4 _ _ _ _ rfl rfl rfl rfl HX.out hd).mono ?_
  rintro e w5 ⟨A3, c3, A4, c4, rfl, hr3, hr4, hb⟩
  (replace HX := Lib.hid (Rd.below (Hid.out HX) hb); replace HY := Lib.hid (Rd.below (Hid.out HY) hb); replace HW := Lib.hid (Rd.below (Hid.out HW) hb); replace R1 := Lib.hid (Rd.below (Hid.out R1) hb); replace R2 := Lib.hid (Rd.below (Hid.out R2) hb))
  have HB := Lib.hid (below_two HB.out hb)
  have R3 := Lib.hid hr3
  have R4 := Lib.hid hr4
  clear hb hr3 hr4
  go_wp2_with fail
  refine (RPop_is A c d l w5 _ _ _ _ rfl rfl rfl rfl HX.out hd).mono ?_
  rintro e w6 ⟨A5, c5, A6, c6, rfl, hr5, hr6, hb⟩
  (replace HX := Lib.hid (Rd.below (Hid.out HX) hb); replace HY := Lib.hid (Rd.below (Hid.out HY) hb); replace HW := Lib.hid (Rd.below (Hid.out HW) hb); replace R1 := Lib.hid (Rd.below (Hid.out R1) hb); replace R2 := Lib.hid (Rd.below (Hid.out R2) hb); replace R3 := Lib.hid (Rd.below (Hid.out R3) hb); replace R4 := Lib.hid (Rd.below (Hid.out R4) hb))
  have HB := Lib.hid (below_two HB.out hb)
  have R5 := Lib.hid hr5
  have R6 := Lib.hid hr6
  clear hb hr5 hr6
  go_wp2_with fail
  refine (Same_is A1 A2 c1 c2 _ _ w6 _ _ true rfl rfl (by simp) R1.out R2.out).mono ?_
  rintro e w7 ⟨rfl, hb⟩
  (replace HX := Lib.hid (Rd.below (Hid.out HX) hb); replace HW := Lib.hid (Rd.below (Hid.out HW) hb); replace R3 := Lib.hid (Rd.below (Hid.out R3) hb); replace R4 := Lib.hid (Rd.below (Hid.out R4) hb); replace R5 := Lib.hid (Rd.below (Hid.out R5) hb); replace R6 := Lib.hid (Rd.below (Hid.out R6) hb))
  have HB := Lib.hid (below_two HB.out hb)
  clear hb
  go_wp2_with fail
  refine (Same_is A3 A5 c3 c5 _ _ w7 _ _ true rfl rfl (by simp) R3.out R5.out).mono ?_
  rintro e w8 ⟨rfl, hb⟩
  (replace HX := Lib.hid (Rd.below (Hid.out HX) hb); replace HW := Lib.hid (Rd.below (Hid.out HW) hb); replace R4 := Lib.hid (Rd.below (Hid.out R4) hb); replace R6 := Lib.hid (Rd.below (Hid.out R6) hb))
  have HB := Lib.hid (below_two HB.out hb)
  clear hb
  go_wp2_with fail
  refine (Same_is A4 A6 c4 c6 _ _ w8 _ _ true rfl rfl (by simp) R4.out R6.out).mono ?_
  rintro e w9 ⟨rfl, hb⟩
  (replace HX := Lib.hid (Rd.below (Hid.out HX) hb); replace HW := Lib.hid (Rd.below (Hid.out HW) hb))
  have HB := Lib.hid (below_two HB.out hb)
  clear hb
  go_wp2_with fail
  refine (Same_is A D c cd _ _ w9 _ _ true rfl rfl (by simp) HX.out HW.out).mono ?_
  rintro e w10 ⟨rfl, hb⟩
  have HB := Lib.hid (below_two HB.out hb)
  clear hb
  go_wp2
  go_ret
  exact ⟨rfl, HB.out⟩

set_option maxHeartbeats 1000000 in
set_option maxRecDepth 100000 in
theorem StackPicks_walk (A : Option Addr) (c : Nat) (i : Int) (l : List Int) (w : World) (hx : RdI w .i64 A c l) :
    Calls Try.prog 4 #[.slice A l.length c, .int .i64 i] w fun e w' => e = .returned (.bool true) ∧ Below w.heap.size w w' := by
  have HX := Lib.hid hx
  clear hx
  go_enter Try.func4, Try.ntmps4
  go_wp2_with fail
  refine (awake_any w).mono ?_
  rintro e w1 ⟨rfl, hb⟩
  (replace HX := Lib.hid (Rd.below (Hid.out HX) hb))
  have HB := Lib.hid hb
  clear hb
  by_cases h1 : 60 < l.length
  · go_wp2
    go_ret
    exact ⟨rfl, HB.out⟩
  have hb := below_lit w1 (.cells #[] 3)
  have HO := Lib.hid (own_new w1)
  have HX1 := Lib.hid (HX.out.below hb)
  have HB1 := Lib.hid hb
  clear hb
  go_wp2_with (refine wp_app (w0 := w1) rfl (.tmp 20) (.tmp 21) 22 3 (.int .i64 0) 1 8 rfl Try.underlying22 infoInt rfl (by decide) (by decide) w1.heap.size _ 0 [] rfl HO.out A l.length c (nums .i64 l) rfl HX1.out (nums_one _ _) (by omega) HB1.out.size HB1.out ?_)
  intro v1 w2 ho hb _
  obtain ⟨D, cd, rfl, hr⟩ := Rd.own ho
  (replace HX := Lib.hid (Rd.below (Hid.out HX) hb))
  have HW := Lib.hid hr
  have HB := Lib.hid (below_two HB.out hb)
  clear hb hr ho HO HX1 HB1
  go_wp2_with fail
  refine (Pick_is A c i l w2 _ _ _ rfl rfl rfl HX.out).mono ?_
  rintro e w3 ⟨rfl, hb⟩
  (replace HX := Lib.hid (Rd.below (Hid.out HX) hb); replace HW := Lib.hid (Rd.below (Hid.out HW) hb))
  have HB := Lib.hid (below_two HB.out hb)
  clear hb
  go_wp2_with fail
  refine (RPick_is A c i l w3 _ _ _ rfl rfl rfl HX.out).mono ?_
  rintro e w' ⟨rfl, rfl⟩
  go_wp2_with fail
  refine (Roll_is A c i l w3 _ _ _ rfl rfl rfl HX.out (by omega)).mono ?_
  rintro e w4 ⟨A1, c1, rfl, hr, hb⟩
  (replace HX := Lib.hid (Rd.below (Hid.out HX) hb); replace HW := Lib.hid (Rd.below (Hid.out HW) hb))
  have HB := Lib.hid (below_two HB.out hb)
  have R1 := Lib.hid hr
  clear hb hr
  go_wp2_with fail
  refine (RRoll_is A c i l w4 _ _ _ rfl rfl rfl HX.out (by omega)).mono ?_
  rintro e w5 ⟨A2, c2, rfl, hr, hb⟩
  (replace HX := Lib.hid (Rd.below (Hid.out HX) hb); replace HW := Lib.hid (Rd.below (Hid.out HW) hb); replace R1 := Lib.hid (Rd.below (Hid.out R1) hb))
  have HB := Lib.hid (below_two HB.out hb)
  have R2 := Lib.hid hr
  clear hb hr
  go_wp2_with fail
  refine (Same_is A1 A2 c1 c2 _ _ w5 _ _ true rfl rfl (by simp) R1.out R2.out).mono ?_
  rintro e w6 ⟨rfl, hb⟩
  (replace HX := Lib.hid (Rd.below (Hid.out HX) hb); replace HW := Lib.hid (Rd.below (Hid.out HW) hb))
  have HB := Lib.hid (below_two HB.out hb)
  clear hb
  go_wp2_with fail
  refine (Same_is A D c cd _ _ w6 _ _ true rfl rfl (by simp) HX.out HW.out).mono ?_
  rintro e w10 ⟨rfl, hb⟩
  have HB := Lib.hid (below_two HB.out hb)
  clear hb
  go_wp2
  go_ret
  exact ⟨rfl, HB.out⟩

end Go.Proofs.Ytfoolkidcdoicaa
