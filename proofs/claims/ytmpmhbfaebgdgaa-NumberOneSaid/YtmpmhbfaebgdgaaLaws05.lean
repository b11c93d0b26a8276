/- The walks of the laws of layer 5. -/
import Derived.Test.YtmpmhbfaebgdgaaAwake05
import Derived.Test.YtmpmhbfaebgdgaaRTakeZ
import Derived.Test.YtmpmhbfaebgdgaaPlain05c
namespace Go.Proofs.Ytmpmhbfaebgdgaa
open Go.RowKit

set_option maxHeartbeats 1000000 in
set_option maxRecDepth 100000 in
theorem NumberPuts_walk (n b : Int) (w : World) (h0 : -9223372036854775808 ≤ n) (h1 : n ≤ 9223372036854775807) :
    Calls Try.prog 3 #[.int .i64 n, .int .i64 b] w fun e w' => e = .returned (.bool true) ∧ Below w.heap.size w w' := by
  obtain ⟨r, hr⟩ : ∃ r, putOk b = r := ⟨_, rfl⟩
  obtain ⟨s, hs⟩ : ∃ s, putS n b = s := ⟨_, rfl⟩
  have HR := Lib.hid hr
  have HS := Lib.hid hs
  clear hr hs
  go_enter Try.func3, Try.ntmps3
  go_wp2_with fail
  refine (awake_any w).mono ?_
  rintro e w1 ⟨rfl, hb⟩
  have HB := Lib.hid hb
  clear hb
  go_wp2_with fail
  refine (Put_is n b _ s r HR.out HS.out h0 h1).mono ?_
  rintro e w2 ⟨rfl, hb⟩
  have HB := Lib.hid (below_two HB.out hb)
  clear hb
  go_wp2_with fail
  refine (RPut_is n b _ s r HR.out HS.out h0 h1).mono ?_
  rintro e w3 ⟨rfl, hb⟩
  have HB := Lib.hid (below_two HB.out hb)
  clear hb
  go_wp2
  all_goals go_ret
  all_goals (refine ⟨?_, HB.out⟩; simp)

set_option maxHeartbeats 1000000 in
set_option maxRecDepth 100000 in
theorem NumberTakes_walk (s : ByteArray) (b : Int) (w : World) (hs : s.size ≤ maxLen) :
    Calls Try.prog 4 #[.string s, .int .i64 b] w fun e w' => e = .returned (.bool true) ∧ Below w.heap.size w w' := by
  have h63 := hs
  unfold maxLen at h63
  obtain ⟨x, ok, hx⟩ : ∃ x ok, takeR s b = (x, ok) := ⟨_, _, rfl⟩
  have HX := Lib.hid hx
  clear hx
  go_enter Try.func4, Try.ntmps4
  go_wp2_with fail
  refine (awake_any w).mono ?_
  rintro e w1 ⟨rfl, hb⟩
  have HB := Lib.hid hb
  clear hb
  by_cases h100 : 100 < s.size
  · go_wp2
    go_ret
    exact ⟨rfl, HB.out⟩
  go_wp2_with fail
  refine (Take_is s b _ x ok HX.out (by omega)).mono ?_
  rintro e w2 ⟨rfl, hb⟩
  have HB := Lib.hid (below_two HB.out hb)
  clear hb
  go_wp2_with fail
  refine (RTake_is s b _ x ok HX.out (by omega)).mono ?_
  rintro e w3 ⟨rfl, rfl⟩
  go_wp2
  all_goals go_ret
  all_goals (refine ⟨?_, HB.out⟩; simp)

/-- The base of the laws. -/
theorem base_of {x : Int} (h0 : 0 ≤ x) : ∃ b : Nat, 2 + x % 35 = b ∧ 2 ≤ b ∧ b ≤ 36 := by
  exact ⟨(2 + x % 35).toNat, by omega, by omega, by omega⟩

set_option maxHeartbeats 1000000 in
set_option maxRecDepth 100000 in
theorem NumberBack_walk (n x : Int) (w : World) (h0 : -9223372036854775808 ≤ n) (h1 : n ≤ 9223372036854775807) (hx0 : 0 ≤ x) (hx1 : x < 256) :
    Calls Try.prog 5 #[.int .i64 n, .int .u8 x] w fun e w' => e = .returned (.bool true) ∧ Below w.heap.size w w' := by
  obtain ⟨b, hbe, hb2, hb36⟩ := base_of hx0
  have hmod0 : 0 ≤ x % 35 ∧ x % 35 < 35 := by omega
  have HT := Lib.hid (take_put n b hb2 hb36 h0 h1)
  have HP := Lib.hid (putS_eq (n := n) hb2 hb36)
  have hlen := putL_len hb2 n h0 h1
  rw [← strOf_size] at hlen
  obtain ⟨s, hs⟩ : ∃ s, strOf (putL n b) = s := ⟨_, rfl⟩
  have HPO : Hid (putOk (b : Int) = true) := Lib.hid (by unfold putOk; rw [decide_eq_true (by omega), decide_eq_true (by omega)]; rfl)
  rw [hs] at HT HP hlen
  clear hs
  go_enter Try.func5, Try.ntmps5
  go_wp2_with fail
  refine (awake_any w).mono ?_
  rintro e w1 ⟨rfl, hb⟩
  have HB := Lib.hid hb
  clear hb
  go_wp2_with fail
  refine (Put_is n b _ s true HPO.out HP.out h0 h1).mono ?_
  rintro e w2 ⟨rfl, hb⟩
  have HB := Lib.hid (below_two HB.out hb)
  clear hb
  go_wp2_with fail
  refine (Take_is s b _ n true HT.out (by omega)).mono ?_
  rintro e w3 ⟨rfl, hb⟩
  have HB := Lib.hid (below_two HB.out hb)
  clear hb
  go_wp2
  go_ret
  refine ⟨?_, HB.out⟩
  simp
  omega

theorem RNE (c : Int) (l : List Int) : strOf [c] ++ strOf l = strOf (c :: l) := strOf_app [c] l
set_option maxHeartbeats 1000000 in
set_option maxRecDepth 100000 in
theorem NumberSigns_walk (n base : Int) (w : World) (h0 : -9223372036854775808 ≤ n) (h1 : n ≤ 9223372036854775807) :
    Calls Try.prog 6 #[.int .i64 n, .int .i64 base] w fun e w' => e = .returned (.bool true) ∧ Below w.heap.size w w' := by
  have e1 : (⟨#[35]⟩ : ByteArray) ++ strOf (putL n 10) = strOf (35 :: putL n 10) := RNE 35 _
  have e2 : (⟨#[36]⟩ : ByteArray) ++ strOf (putL n 16) = strOf (36 :: putL n 16) := RNE 36 _
  have e3 : (⟨#[37]⟩ : ByteArray) ++ strOf (putL n 2) = strOf (37 :: putL n 2) := RNE 37 _
  have T1 := Lib.hid (take_sign 35 n 10 base (by decide) h0 h1)
  have T2 := Lib.hid (take_sign 36 n 16 base (by decide) h0 h1)
  have T3 := Lib.hid (take_sign 37 n 2 base (by decide) h0 h1)
  have P1 := Lib.hid (putS_eq (n := n) (b := 10) (by decide) (by decide))
  have P2 := Lib.hid (putS_eq (n := n) (b := 16) (by decide) (by decide))
  have P3 := Lib.hid (putS_eq (n := n) (b := 2) (by decide) (by decide))
  have l1 := putL_len (b := 10) (by decide) n h0 h1
  have l2 := putL_len (b := 16) (by decide) n h0 h1
  have l3 := putL_len (b := 2) (by decide) n h0 h1
  rw [← strOf_size] at l1 l2 l3
  have z1 : ((⟨#[35]⟩ : ByteArray) ++ strOf (putL n 10)).size ≤ 66 := by rw [ByteArray.size_append]; show 1 + _ ≤ 66; omega
  have z2 : ((⟨#[36]⟩ : ByteArray) ++ strOf (putL n 16)).size ≤ 66 := by rw [ByteArray.size_append]; show 1 + _ ≤ 66; omega
  have z3 : ((⟨#[37]⟩ : ByteArray) ++ strOf (putL n 2)).size ≤ 66 := by rw [ByteArray.size_append]; show 1 + _ ≤ 66; omega
  rw [← e1] at T1
  rw [← e2] at T2
  rw [← e3] at T3
  clear e1 e2 e3
  generalize strOf (putL n 10) = s1 at *
  generalize strOf (putL n 16) = s2 at *
  generalize strOf (putL n 2) = s3 at *
  have Z1 := Lib.hid z1
  have Z2 := Lib.hid z2
  have Z3 := Lib.hid z3
  clear z1 z2 z3
  go_enter Try.func6, Try.ntmps6
  go_wp2_with fail
  refine (awake_any w).mono ?_
  rintro e w1 ⟨rfl, hb⟩
  have HB := Lib.hid hb
  clear hb
  go_wp2_with fail
  refine (Put_is n 10 _ s1 true (by decide) P1.out h0 h1).mono ?_
  rintro e w2 ⟨rfl, hb⟩
  have HB := Lib.hid (below_two HB.out hb)
  clear hb
  go_wp2_with fail
  refine (Put_is n 16 _ s2 true (by decide) P2.out h0 h1).mono ?_
  rintro e w3 ⟨rfl, hb⟩
  have HB := Lib.hid (below_two HB.out hb)
  clear hb
  go_wp2_with fail
  refine (Put_is n 2 _ s3 true (by decide) P3.out h0 h1).mono ?_
  rintro e w4 ⟨rfl, hb⟩
  have HB := Lib.hid (below_two HB.out hb)
  clear hb
  go_wp2_with fail
  refine (Take_is _ base _ n true T1.out (by have := Z1.out; omega)).mono ?_
  rintro e w5 ⟨rfl, hb⟩
  have HB := Lib.hid (below_two HB.out hb)
  clear hb
  go_wp2_with fail
  refine (Take_is _ base _ n true T2.out (by have := Z2.out; omega)).mono ?_
  rintro e w6 ⟨rfl, hb⟩
  have HB := Lib.hid (below_two HB.out hb)
  clear hb
  go_wp2_with fail
  refine (Take_is _ base _ n true T3.out (by have := Z3.out; omega)).mono ?_
  rintro e w7 ⟨rfl, hb⟩
  have HB := Lib.hid (below_two HB.out hb)
  clear hb
  go_wp2
  go_ret
  exact ⟨rfl, HB.out⟩

set_option maxHeartbeats 1000000 in
set_option maxRecDepth 100000 in
theorem NumberOne_walk (n m x : Int) (w : World) (h0 : -9223372036854775808 ≤ n) (h1 : n ≤ 9223372036854775807) (h2 : -9223372036854775808 ≤ m) (h3 : m ≤ 9223372036854775807) (hx0 : 0 ≤ x) (hx1 : x < 256) :
    Calls Try.prog 7 #[.int .i64 n, .int .i64 m, .int .u8 x] w fun e w' => e = .returned (.bool true) ∧ Below w.heap.size w w' := by
  obtain ⟨b, hbe, hb2, hb36⟩ := base_of hx0
  have hmod0 : 0 ≤ x % 35 ∧ x % 35 < 35 := by omega
  have P1 := Lib.hid (putS_eq (n := n) hb2 hb36)
  have P2 := Lib.hid (putS_eq (n := m) hb2 hb36)
  have HPO : Hid (putOk (b : Int) = true) := Lib.hid (by unfold putOk; rw [decide_eq_true (by omega), decide_eq_true (by omega)]; rfl)
  have heq : ((strOf (putL n b)).toList == (strOf (putL m b)).toList) = (n == m) := by
    by_cases h : n = m
    · subst h
      simp
    · rw [beq_eq_false_iff_ne.2 h, beq_eq_false_iff_ne]
      intro e
      rw [ByteArray.toList_eq, ByteArray.toList_eq] at e
      exact h (putL_inj hb2 hb36 h0 h1 h2 h3 (ByteArray.ext (Array.toList_inj.1 e)))
  obtain ⟨r, s3, hr, hs3, hlast⟩ : ∃ (r : Bool) (s3 : ByteArray), putOk ((b : Int) + 1) = r ∧ putS n ((b : Int) + 1) = s3 ∧ ((b = 36 ∧ r = false) ∨ (b ≠ 36 ∧ r = true ∧ s3.size ≤ (strOf (putL n b)).size)) := by
    refine ⟨_, _, rfl, rfl, ?_⟩
    by_cases hb : b = 36
    · subst hb
      exact .inl ⟨rfl, rfl⟩
    · refine .inr ⟨hb, ?_, ?_⟩
      · unfold putOk
        rw [decide_eq_true (by omega), decide_eq_true (by omega)]
        rfl
      · have := putS_eq (n := n) (b := b + 1) (by omega) (by omega)
        rw [show ((b : Int) + 1) = ((b + 1 : Nat) : Int) by omega, this, strOf_size, strOf_size]
        exact putL_more hb2 n
  have HR := Lib.hid hr
  have HS := Lib.hid hs3
  clear hr hs3
  generalize strOf (putL n b) = s1 at *
  generalize strOf (putL m b) = s2 at *
  go_enter Try.func7, Try.ntmps7
  go_wp2_with fail
  refine (awake_any w).mono ?_
  rintro e w1 ⟨rfl, hb⟩
  have HB := Lib.hid hb
  clear hb
  go_wp2_with fail
  refine (Put_is n b _ s1 true HPO.out P1.out h0 h1).mono ?_
  rintro e w2 ⟨rfl, hb⟩
  have HB := Lib.hid (below_two HB.out hb)
  clear hb
  go_wp2_with fail
  refine (Put_is m b _ s2 true HPO.out P2.out h2 h3).mono ?_
  rintro e w3 ⟨rfl, hb⟩
  have HB := Lib.hid (below_two HB.out hb)
  clear hb
  go_wp2_with fail
  refine (Put_is n _ _ s3 r HR.out HS.out h0 h1).mono ?_
  rintro e w4 ⟨rfl, hb⟩
  have HB := Lib.hid (below_two HB.out hb)
  clear hb HR HS P1 P2 HPO hbe
  rcases hlast with ⟨rfl, rfl⟩ | ⟨hne, rfl, hle⟩
  · go_wp2
    all_goals go_ret
    all_goals (refine ⟨?_, HB.out⟩; simp)
  · have hne2 : ((b : Int) == 36) = false := by rw [beq_eq_false_iff_ne]; omega
    go_wp2
    all_goals go_ret
    all_goals (refine ⟨?_, HB.out⟩; simp)
end Go.Proofs.Ytmpmhbfaebgdgaa
