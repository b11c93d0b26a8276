/- The walk of StackBack. -/
import Derived.Test.YtfoolkidcdoicaaLaws04
namespace Go.Proofs.Ytfoolkidcdoicaa
open Go.RowKit

set_option maxHeartbeats 1000000 in
set_option maxRecDepth 100000 in
theorem StackBack_walk (A B : Option Addr) (c cb : Nat) (l v : List Int) (w : World) (hx : RdI w .i64 A c l) (hy : RdI w .i64 B cb v) :
    Calls Try.prog 5 #[.slice A l.length c, .slice B v.length cb] w fun e w' => e = .returned (.bool true) ∧ Below w.heap.size w w' := by
  have HX := Lib.hid hx
  have HY := Lib.hid hy
  clear hx hy
  go_enter Try.func5, Try.ntmps5
  go_wp2_with fail
  refine (awake_any w).mono ?_
  rintro e w1 ⟨rfl, hb⟩
  (replace HX := Lib.hid (Rd.below (Hid.out HX) hb); replace HY := Lib.hid (Rd.below (Hid.out HY) hb))
  have HB := Lib.hid hb
  clear hb
  by_cases h1 : 60 < l.length
  · go_wp2
    go_ret
    exact ⟨rfl, HB.out⟩
  by_cases h2 : 60 < v.length
  · go_wp2
    go_ret
    exact ⟨rfl, HB.out⟩
  go_wp2_with fail
  have e0 : pushE l.length v.length ((l.length : Int) + v.length) = 0 := by rw [pushE, if_neg (by omega)]
  refine (Push_is A B c cb (l.length + v.length) l v w1 _ _ (l ++ v) 0 rfl rfl (by rw [pushR, if_pos e0]) e0 HX.out HY.out (by omega)).mono ?_
  rintro e w3 ⟨A1, c1, rfl, hr, hb⟩
  (replace HX := Lib.hid (Rd.below (Hid.out HX) hb); replace HY := Lib.hid (Rd.below (Hid.out HY) hb))
  have HB := Lib.hid (below_two HB.out hb)
  have R1 := Lib.hid hr
  clear hb hr
  go_wp2_with fail
  have hpe : popE (l ++ v).length (v.length : Int) = 0 := by
    rw [popE, if_neg]
    simp
    omega
  have e1 : (l ++ v).length - (v.length : Int).toNat = l.length := by simp
  refine (Pop_is A1 c1 v.length (l ++ v) w3 (l.length + v.length) l v 0 (by simp) (by rw [popR, if_pos hpe, e1, List.take_left']; rfl) (by rw [popT, if_pos hpe, e1, List.drop_left']; rfl) hpe R1.out (by omega)).mono ?_
  rintro e w5 ⟨A3, c3, A4, c4, rfl, hr3, hr4, hb⟩
  (replace HX := Lib.hid (Rd.below (Hid.out HX) hb); replace HY := Lib.hid (Rd.below (Hid.out HY) hb))
  have HB := Lib.hid (below_two HB.out hb)
  have R3 := Lib.hid hr3
  have R4 := Lib.hid hr4
  clear hb hr3 hr4 hpe e1
  go_wp2_with fail
  have e2 : pushE l.length v.length ((l.length : Int) + v.length - 1) = -3 := by rw [pushE, if_pos (by omega)]
  refine (Push_is A B c cb (l.length + v.length - 1) l v w5 _ _ _ (-3) rfl rfl rfl e2 HX.out HY.out (by omega)).mono ?_
  rintro e w6 ⟨A6, c6, rfl, hr, hb⟩
  (replace HX := Lib.hid (Rd.below (Hid.out HX) hb); replace HY := Lib.hid (Rd.below (Hid.out HY) hb); replace R3 := Lib.hid (Rd.below (Hid.out R3) hb); replace R4 := Lib.hid (Rd.below (Hid.out R4) hb))
  have HB := Lib.hid (below_two HB.out hb)
  clear hb hr e2
  go_wp2_with fail
  refine (Same_is A3 A c3 c _ _ w6 _ _ true rfl rfl (by simp) R3.out HX.out).mono ?_
  rintro e w7 ⟨rfl, hb⟩
  (replace HY := Lib.hid (Rd.below (Hid.out HY) hb); replace R4 := Lib.hid (Rd.below (Hid.out R4) hb))
  have HB := Lib.hid (below_two HB.out hb)
  clear hb
  go_wp2_with fail
  refine (Same_is A4 B c4 cb _ _ w7 _ _ true rfl rfl (by simp) R4.out HY.out).mono ?_
  rintro e w8 ⟨rfl, hb⟩
  have HB := Lib.hid (below_two HB.out hb)
  clear hb
  go_wp2
  go_ret
  exact ⟨rfl, HB.out⟩
end Go.Proofs.Ytfoolkidcdoicaa
