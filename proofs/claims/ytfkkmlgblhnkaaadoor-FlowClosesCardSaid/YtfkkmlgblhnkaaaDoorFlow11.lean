
/- The closures of flow.table. -/
import Derived.Test.YtfkkmlgblhnkaaaDoorWork11c
import Derived.Test.YtfkkmlgblhnkaaaDoorPlainF11
namespace Go.Proofs.YtfkkmlgblhnkaaaDoor
open Go.RowKit

set_option maxRecDepth 100000 in
set_option maxHeartbeats 2000000 in
theorem Forward_any (g : Nat) (op kind : Int) (q : Ad) (s : Ps) (e : Int) (s' : Ps) (e' : Int) (w : World) (hr : forwardW (s, e) op kind = (s', e')) (h : Wk w g q s e) (hz : Sz s 100000) :
    Calls Tryd.prog 45 #[.pointer (some ⟨g, 0, none⟩), .int .i64 op, .int .i64 kind] w fun r w' => r = .returned (.tuple #[]) ∧ ∃ q', To g w q s w' q' s' e' := by
  obtain ⟨s1, e1, hx1⟩ : ∃ a b, roomW (s, e) 1 = (a, b) := ⟨_, _, rfl⟩
  have hz1 : Sz s1 100000 := by have := roomW_sz (x := (s, e)) (m := 1) (hz); rw [hx1] at this; exact this
  obtain ⟨s2, e2, hx2⟩ : ∃ a b, layW (s1, e1) op 0 = (a, b) := ⟨_, _, rfl⟩
  have hz2 : Sz s2 100002 := by have := layW_sz (x := (s1, e1)) (op := op) (v := 0) (hz1); rw [hx2] at this; exact this
  obtain ⟨fr1, hfr1⟩ : ∃ v, wrap64 (s2.here - 8) = v := ⟨_, rfl⟩
  obtain ⟨s3, e3, hx3⟩ : ∃ a b, pushW (s2, e2) kind fr1 = (a, b) := ⟨_, _, rfl⟩
  have hz3 : Sz s3 100004 := by have := pushW_sz (x := (s2, e2)) (kind := kind) (at_ := fr1) (hz2); rw [hx3] at this; exact this
  have hfin : s3 = s' ∧ e3 = e' := by
    unfold forwardW at hr
    simp only [freshW, hx1, hx2, hfr1, hx3] at hr
    injection hr with a b
    exact ⟨a, b⟩
  obtain ⟨rfl, rfl⟩ := hfin
  have H := Lib.hid h
  have Hhx1 := Lib.hid hx1
  have Hhx2 := Lib.hid hx2
  have Hhfr1 := Lib.hid hfr1
  have Hhx3 := Lib.hid hx3
  have hz0 := hz
  clear h hr hx1 hx2 hfr1 hx3
  go_enter Tryd.func45, Tryd.ntmps45
  go_wp2_with fail
  refine (Room_any g 1 q s e s1 e1 w Hhx1.out H.out (by have := hz0.2.2; omega) (by decide)).mono ?_
  rintro r w1 ⟨rfl, q1, ht⟩
  have HT1 := Lib.hid ht
  clear ht
  go_wp2_with fail
  refine (Lay_any g (op) (0) q1 s1 e1 s2 e2 w1 Hhx2.out HT1.out.wk (by have := hz1.1; omega) (by have := hz1.2.1; omega)).mono ?_
  rintro r w2 ⟨rfl, q2, ht⟩
  have HT2 := Lib.hid (HT1.out.trans ht)
  clear ht
  go_wp2_with fail
  have hf1 := Fresh_any g s2.here w2 HT2.out.wk.here
  rw [Hhfr1.out] at hf1
  refine hf1.mono ?_
  rintro r w' ⟨rfl, rfl⟩
  clear hf1
  go_wp2_with fail
  refine (Push_any g (kind) (fr1) q2 s2 e2 s3 e3 w2 Hhx3.out HT2.out.wk (by have := hz2.2.2; omega)).mono ?_
  rintro r w3 ⟨rfl, q3, ht⟩
  have HT3 := Lib.hid (HT2.out.trans ht)
  clear ht
  go_wp2
  first | go_end0 | go_ret
  exact ⟨rfl, _, HT3.out⟩

set_option maxRecDepth 100000 in
theorem If_any (g : Nat) (q : Ad) (s : Ps) (e : Int) (s' : Ps) (e' : Int) (w : World) (hr : forwardW (s, e) 4 1 = (s', e')) (h : Wk w g q s e) (hz : Sz s 100000) :
    Calls Tryd.prog 44 #[.pointer (some ⟨g, 0, none⟩)] w fun r w' => r = .returned (.tuple #[]) ∧ ∃ q', To g w q s w' q' s' e' := by
  have HF := Lib.hid (Forward_any g 4 1 q s e s' e' w hr h hz)
  clear h hr hz
  go_enter Tryd.func44, Tryd.ntmps44
  go_wp2_with fail
  refine HF.out.mono ?_
  rintro r w1 ⟨rfl, q1, ht⟩
  have HT := Lib.hid ht
  clear ht
  go_wp2
  first | go_end0 | go_ret
  exact ⟨rfl, _, HT.out⟩

set_option maxRecDepth 100000 in
theorem Do5_any (g : Nat) (q : Ad) (s : Ps) (e : Int) (s' : Ps) (e' : Int) (w : World) (hr : forwardW (s, e) 5 3 = (s', e')) (h : Wk w g q s e) (hz : Sz s 100000) :
    Calls Tryd.prog 48 #[.pointer (some ⟨g, 0, none⟩)] w fun r w' => r = .returned (.tuple #[]) ∧ ∃ q', To g w q s w' q' s' e' := by
  have HF := Lib.hid (Forward_any g 5 3 q s e s' e' w hr h hz)
  clear h hr hz
  go_enter Tryd.func48, Tryd.ntmps48
  go_wp2_with fail
  refine HF.out.mono ?_
  rintro r w1 ⟨rfl, q1, ht⟩
  have HT := Lib.hid ht
  clear ht
  go_wp2
  first | go_end0 | go_ret
  exact ⟨rfl, _, HT.out⟩

set_option maxRecDepth 100000 in
set_option maxHeartbeats 2000000 in
theorem Begin_any (g : Nat) (q : Ad) (s : Ps) (e : Int) (s' : Ps) (e' : Int) (w : World) (hr : beginW (s, e) = (s', e')) (h : Wk w g q s e) (hz : Sz s 100000) :
    Calls Tryd.prog 46 #[.pointer (some ⟨g, 0, none⟩)] w fun r w' => r = .returned (.tuple #[]) ∧ ∃ q', To g w q s w' q' s' e' := by
  obtain ⟨s1, e1, hx1⟩ : ∃ a b, pushW (s, e) 2 s.here = (a, b) := ⟨_, _, rfl⟩
  have hz1 : Sz s1 100002 := by have := pushW_sz (x := (s, e)) (kind := 2) (at_ := s.here) (hz); rw [hx1] at this; exact this
  have hfin : s1 = s' ∧ e1 = e' := by
    unfold beginW at hr
    simp only [hx1] at hr
    injection hr with a b
    exact ⟨a, b⟩
  obtain ⟨rfl, rfl⟩ := hfin
  have H := Lib.hid h
  have Hhx1 := Lib.hid hx1
  have hz0 := hz
  clear h hr hx1
  have c8 := H.out.here
  go_enter Tryd.func46, Tryd.ntmps46
  go_wp2_with fail
  refine (Push_any g (2) (s.here) q s e s1 e1 w Hhx1.out H.out (by have := hz0.2.2; omega)).mono ?_
  rintro r w1 ⟨rfl, q1, ht⟩
  have HT1 := Lib.hid ht
  clear ht
  go_wp2
  first | go_end0 | go_ret
  exact ⟨rfl, _, HT1.out⟩

set_option maxRecDepth 100000 in
set_option maxHeartbeats 2000000 in
theorem Then_any (g : Nat) (q : Ad) (s : Ps) (e : Int) (s' : Ps) (e' : Int) (w : World) (hr : thenW (s, e) = (s', e')) (h : Wk w g q s e) (hz : Sz s 100000) :
    Calls Tryd.prog 49 #[.pointer (some ⟨g, 0, none⟩)] w fun r w' => r = .returned (.tuple #[]) ∧ ∃ q', To g w q s w' q' s' e' := by
  obtain ⟨v1, hv1⟩ : ∃ v, popV (s, e) 1 = v := ⟨_, rfl⟩
  obtain ⟨s1, e1, hx1⟩ : ∃ a b, popW (s, e) 1 = (a, b) := ⟨_, _, rfl⟩
  have hz1 : Sz s1 100000 := by have := popW_sz (x := (s, e)) (kind := 1) (hz); rw [hx1] at this; exact this
  obtain ⟨s2, e2, hx2⟩ : ∃ a b, settleW (s1, e1) v1 = (a, b) := ⟨_, _, rfl⟩
  have hz2 : Sz s2 100000 := by have := settleW_sz (x := (s1, e1)) (at_ := v1) (hz1); rw [hx2] at this; exact this
  have hfin : s2 = s' ∧ e2 = e' := by
    unfold thenW at hr
    simp only [hv1, hx1, hx2] at hr
    injection hr with a b
    exact ⟨a, b⟩
  obtain ⟨rfl, rfl⟩ := hfin
  have H := Lib.hid h
  have Hhv1 := Lib.hid hv1
  have Hhx1 := Lib.hid hx1
  have Hhx2 := Lib.hid hx2
  have hz0 := hz
  clear h hr hv1 hx1 hx2
  go_enter Tryd.func49, Tryd.ntmps49
  go_wp2_with fail
  refine (Pop_any g (1) q s e v1 s1 e1 w Hhv1.out Hhx1.out H.out (by have := hz0.2.2; omega)).mono ?_
  rintro r w1 ⟨rfl, q1, ht⟩
  have HT1 := Lib.hid ht
  clear ht
  go_wp2_with fail
  refine (Settle_any g (v1) q1 s1 e1 s2 e2 w1 Hhx2.out HT1.out.wk (by have := hz1.1; omega)).mono ?_
  rintro r w2 ⟨rfl, q2, ht⟩
  have HT2 := Lib.hid (HT1.out.trans ht)
  clear ht
  go_wp2
  first | go_end0 | go_ret
  exact ⟨rfl, _, HT2.out⟩

set_option maxRecDepth 100000 in
set_option maxHeartbeats 2000000 in
theorem Else_any (g : Nat) (q : Ad) (s : Ps) (e : Int) (s' : Ps) (e' : Int) (w : World) (hr : elseW (s, e) = (s', e')) (h : Wk w g q s e) (hz : Sz s 100000) :
    Calls Tryd.prog 50 #[.pointer (some ⟨g, 0, none⟩)] w fun r w' => r = .returned (.tuple #[]) ∧ ∃ q', To g w q s w' q' s' e' := by
  obtain ⟨v1, hv1⟩ : ∃ v, popV (s, e) 1 = v := ⟨_, rfl⟩
  obtain ⟨s1, e1, hx1⟩ : ∃ a b, popW (s, e) 1 = (a, b) := ⟨_, _, rfl⟩
  have hz1 : Sz s1 100000 := by have := popW_sz (x := (s, e)) (kind := 1) (hz); rw [hx1] at this; exact this
  obtain ⟨s2, e2, hx2⟩ : ∃ a b, roomW (s1, e1) 1 = (a, b) := ⟨_, _, rfl⟩
  have hz2 : Sz s2 100000 := by have := roomW_sz (x := (s1, e1)) (m := 1) (hz1); rw [hx2] at this; exact this
  obtain ⟨s3, e3, hx3⟩ : ∃ a b, layW (s2, e2) 3 0 = (a, b) := ⟨_, _, rfl⟩
  have hz3 : Sz s3 100002 := by have := layW_sz (x := (s2, e2)) (op := 3) (v := 0) (hz2); rw [hx3] at this; exact this
  obtain ⟨s4, e4, hx4⟩ : ∃ a b, settleW (s3, e3) v1 = (a, b) := ⟨_, _, rfl⟩
  have hz4 : Sz s4 100002 := by have := settleW_sz (x := (s3, e3)) (at_ := v1) (hz3); rw [hx4] at this; exact this
  obtain ⟨fr1, hfr1⟩ : ∃ v, wrap64 (s4.here - 8) = v := ⟨_, rfl⟩
  obtain ⟨s5, e5, hx5⟩ : ∃ a b, pushW (s4, e4) 1 fr1 = (a, b) := ⟨_, _, rfl⟩
  have hz5 : Sz s5 100004 := by have := pushW_sz (x := (s4, e4)) (kind := 1) (at_ := fr1) (hz4); rw [hx5] at this; exact this
  have hfin : s5 = s' ∧ e5 = e' := by
    unfold elseW at hr
    simp only [freshW, hv1, hx1, hx2, hx3, hx4, hfr1, hx5] at hr
    injection hr with a b
    exact ⟨a, b⟩
  obtain ⟨rfl, rfl⟩ := hfin
  have H := Lib.hid h
  have Hhv1 := Lib.hid hv1
  have Hhx1 := Lib.hid hx1
  have Hhx2 := Lib.hid hx2
  have Hhx3 := Lib.hid hx3
  have Hhx4 := Lib.hid hx4
  have Hhfr1 := Lib.hid hfr1
  have Hhx5 := Lib.hid hx5
  have hz0 := hz
  clear h hr hv1 hx1 hx2 hx3 hx4 hfr1 hx5
  go_enter Tryd.func50, Tryd.ntmps50
  go_wp2_with fail
  refine (Pop_any g (1) q s e v1 s1 e1 w Hhv1.out Hhx1.out H.out (by have := hz0.2.2; omega)).mono ?_
  rintro r w1 ⟨rfl, q1, ht⟩
  have HT1 := Lib.hid ht
  clear ht
  go_wp2_with fail
  refine (Room_any g 1 q1 s1 e1 s2 e2 w1 Hhx2.out HT1.out.wk (by have := hz1.2.2; omega) (by decide)).mono ?_
  rintro r w2 ⟨rfl, q2, ht⟩
  have HT2 := Lib.hid (HT1.out.trans ht)
  clear ht
  go_wp2_with fail
  refine (Lay_any g (3) (0) q2 s2 e2 s3 e3 w2 Hhx3.out HT2.out.wk (by have := hz2.1; omega) (by have := hz2.2.1; omega)).mono ?_
  rintro r w3 ⟨rfl, q3, ht⟩
  have HT3 := Lib.hid (HT2.out.trans ht)
  clear ht
  go_wp2_with fail
  refine (Settle_any g (v1) q3 s3 e3 s4 e4 w3 Hhx4.out HT3.out.wk (by have := hz3.1; omega)).mono ?_
  rintro r w4 ⟨rfl, q4, ht⟩
  have HT4 := Lib.hid (HT3.out.trans ht)
  clear ht
  go_wp2_with fail
  have hf1 := Fresh_any g s4.here w4 HT4.out.wk.here
  rw [Hhfr1.out] at hf1
  refine hf1.mono ?_
  rintro r w' ⟨rfl, rfl⟩
  clear hf1
  go_wp2_with fail
  refine (Push_any g (1) (fr1) q4 s4 e4 s5 e5 w4 Hhx5.out HT4.out.wk (by have := hz4.2.2; omega)).mono ?_
  rintro r w5 ⟨rfl, q5, ht⟩
  have HT5 := Lib.hid (HT4.out.trans ht)
  clear ht
  go_wp2
  first | go_end0 | go_ret
  exact ⟨rfl, _, HT5.out⟩

set_option maxRecDepth 100000 in
set_option maxHeartbeats 2000000 in
theorem While_any (g : Nat) (q : Ad) (s : Ps) (e : Int) (s' : Ps) (e' : Int) (w : World) (hr : whileW (s, e) = (s', e')) (h : Wk w g q s e) (hz : Sz s 100000) :
    Calls Tryd.prog 53 #[.pointer (some ⟨g, 0, none⟩)] w fun r w' => r = .returned (.tuple #[]) ∧ ∃ q', To g w q s w' q' s' e' := by
  obtain ⟨v1, hv1⟩ : ∃ v, popV (s, e) 2 = v := ⟨_, rfl⟩
  obtain ⟨s1, e1, hx1⟩ : ∃ a b, popW (s, e) 2 = (a, b) := ⟨_, _, rfl⟩
  have hz1 : Sz s1 100000 := by have := popW_sz (x := (s, e)) (kind := 2) (hz); rw [hx1] at this; exact this
  obtain ⟨s2, e2, hx2⟩ : ∃ a b, roomW (s1, e1) 2 = (a, b) := ⟨_, _, rfl⟩
  have hz2 : Sz s2 100000 := by have := roomW_sz (x := (s1, e1)) (m := 2) (hz1); rw [hx2] at this; exact this
  obtain ⟨s3, e3, hx3⟩ : ∃ a b, layW (s2, e2) 4 0 = (a, b) := ⟨_, _, rfl⟩
  have hz3 : Sz s3 100002 := by have := layW_sz (x := (s2, e2)) (op := 4) (v := 0) (hz2); rw [hx3] at this; exact this
  obtain ⟨fr1, hfr1⟩ : ∃ v, wrap64 (s3.here - 8) = v := ⟨_, rfl⟩
  obtain ⟨s4, e4, hx4⟩ : ∃ a b, pushW (s3, e3) 1 fr1 = (a, b) := ⟨_, _, rfl⟩
  have hz4 : Sz s4 100004 := by have := pushW_sz (x := (s3, e3)) (kind := 1) (at_ := fr1) (hz3); rw [hx4] at this; exact this
  obtain ⟨s5, e5, hx5⟩ : ∃ a b, pushW (s4, e4) 2 v1 = (a, b) := ⟨_, _, rfl⟩
  have hz5 : Sz s5 100006 := by have := pushW_sz (x := (s4, e4)) (kind := 2) (at_ := v1) (hz4); rw [hx5] at this; exact this
  have hfin : s5 = s' ∧ e5 = e' := by
    unfold whileW at hr
    simp only [freshW, hv1, hx1, hx2, hx3, hfr1, hx4, hx5] at hr
    injection hr with a b
    exact ⟨a, b⟩
  obtain ⟨rfl, rfl⟩ := hfin
  have H := Lib.hid h
  have Hhv1 := Lib.hid hv1
  have Hhx1 := Lib.hid hx1
  have Hhx2 := Lib.hid hx2
  have Hhx3 := Lib.hid hx3
  have Hhfr1 := Lib.hid hfr1
  have Hhx4 := Lib.hid hx4
  have Hhx5 := Lib.hid hx5
  have hz0 := hz
  clear h hr hv1 hx1 hx2 hx3 hfr1 hx4 hx5
  go_enter Tryd.func53, Tryd.ntmps53
  go_wp2_with fail
  refine (Pop_any g (2) q s e v1 s1 e1 w Hhv1.out Hhx1.out H.out (by have := hz0.2.2; omega)).mono ?_
  rintro r w1 ⟨rfl, q1, ht⟩
  have HT1 := Lib.hid ht
  clear ht
  go_wp2_with fail
  refine (Room_any g 2 q1 s1 e1 s2 e2 w1 Hhx2.out HT1.out.wk (by have := hz1.2.2; omega) (by decide)).mono ?_
  rintro r w2 ⟨rfl, q2, ht⟩
  have HT2 := Lib.hid (HT1.out.trans ht)
  clear ht
  go_wp2_with fail
  refine (Lay_any g (4) (0) q2 s2 e2 s3 e3 w2 Hhx3.out HT2.out.wk (by have := hz2.1; omega) (by have := hz2.2.1; omega)).mono ?_
  rintro r w3 ⟨rfl, q3, ht⟩
  have HT3 := Lib.hid (HT2.out.trans ht)
  clear ht
  go_wp2_with fail
  have hf1 := Fresh_any g s3.here w3 HT3.out.wk.here
  rw [Hhfr1.out] at hf1
  refine hf1.mono ?_
  rintro r w' ⟨rfl, rfl⟩
  clear hf1
  go_wp2_with fail
  refine (Push_any g (1) (fr1) q3 s3 e3 s4 e4 w3 Hhx4.out HT3.out.wk (by have := hz3.2.2; omega)).mono ?_
  rintro r w4 ⟨rfl, q4, ht⟩
  have HT4 := Lib.hid (HT3.out.trans ht)
  clear ht
  go_wp2_with fail
  refine (Push_any g (2) (v1) q4 s4 e4 s5 e5 w4 Hhx5.out HT4.out.wk (by have := hz4.2.2; omega)).mono ?_
  rintro r w5 ⟨rfl, q5, ht⟩
  have HT5 := Lib.hid (HT4.out.trans ht)
  clear ht
  go_wp2
  first | go_end0 | go_ret
  exact ⟨rfl, _, HT5.out⟩

set_option maxRecDepth 100000 in
set_option maxHeartbeats 2000000 in
theorem Shut_any (g : Nat) (op : Int) (b : Nat) (q : Ad) (s : Ps) (e : Int) (s' : Ps) (e' : Int) (w : World) (hb : b ≠ g) (hc : w.cell? ⟨b, 0, none⟩ = some (.int .i64 op)) (hr : shutW (s, e) op = (s', e')) (h : Wk w g q s e) (hz : Sz s 100000) :
    Calls Tryd.prog 42 #[.pointer (some ⟨g, 0, none⟩), .pointer (some ⟨b, 0, none⟩)] w fun r w' => r = .returned (.tuple #[]) ∧ ∃ q', To g w q s w' q' s' e' := by
  obtain ⟨v1, hv1⟩ : ∃ v, popV (s, e) 3 = v := ⟨_, rfl⟩
  obtain ⟨s1, e1, hx1⟩ : ∃ a b, popW (s, e) 3 = (a, b) := ⟨_, _, rfl⟩
  have hz1 : Sz s1 100000 := by have := popW_sz (x := (s, e)) (kind := 3) (hz); rw [hx1] at this; exact this
  obtain ⟨s2, e2, hx2⟩ : ∃ a b, layW (s1, e1) op (wrap64 (v1 + 8)) = (a, b) := ⟨_, _, rfl⟩
  have hz2 : Sz s2 100002 := by have := layW_sz (x := (s1, e1)) (op := op) (v := (wrap64 (v1 + 8))) (hz1); rw [hx2] at this; exact this
  obtain ⟨s3, e3, hx3⟩ : ∃ a b, settleW (s2, e2) v1 = (a, b) := ⟨_, _, rfl⟩
  have hz3 : Sz s3 100002 := by have := settleW_sz (x := (s2, e2)) (at_ := v1) (hz2); rw [hx3] at this; exact this
  have hfin : s3 = s' ∧ e3 = e' := by
    unfold shutW at hr
    simp only [hv1, hx1, hx2, hx3] at hr
    injection hr with a b
    exact ⟨a, b⟩
  obtain ⟨rfl, rfl⟩ := hfin
  have H := Lib.hid h
  have Hhv1 := Lib.hid hv1
  have Hhx1 := Lib.hid hx1
  have Hhx2 := Lib.hid hx2
  have Hhx3 := Lib.hid hx3
  have hz0 := hz
  clear h hr hv1 hx1 hx2 hx3
  go_enter Tryd.func42, Tryd.ntmps42
  go_wp2_with fail
  refine (Pop_any g (3) q s e v1 s1 e1 w Hhv1.out Hhx1.out H.out (by have := hz0.2.2; omega)).mono ?_
  rintro r w1 ⟨rfl, q1, ht⟩
  have HT1 := Lib.hid ht
  clear ht
  have hc1 : w1.cell? ⟨b, 0, none⟩ = some (.int .i64 op) := HT1.out.gr.cell hc (fun e => hb (by injection e))
  go_wp2_with fail
  refine (Lay_any g (op) ((wrap64 (v1 + 8))) q1 s1 e1 s2 e2 w1 Hhx2.out HT1.out.wk (by have := hz1.1; omega) (by have := hz1.2.1; omega)).mono ?_
  rintro r w2 ⟨rfl, q2, ht⟩
  have HT2 := Lib.hid (HT1.out.trans ht)
  clear ht
  go_wp2_with fail
  refine (Settle_any g (v1) q2 s2 e2 s3 e3 w2 Hhx3.out HT2.out.wk (by have := hz2.1; omega)).mono ?_
  rintro r w3 ⟨rfl, q3, ht⟩
  have HT3 := Lib.hid (HT2.out.trans ht)
  clear ht
  go_wp2
  first | go_end0 | go_ret
  exact ⟨rfl, _, HT3.out⟩
end Go.Proofs.YtfkkmlgblhnkaaaDoor
