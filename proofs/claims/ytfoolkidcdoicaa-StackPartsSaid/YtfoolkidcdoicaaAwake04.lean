/- nostoslaw04: awake. -/
import Derived.Test.YtfoolkidcdoicaaIs04
namespace Go.Proofs.Ytfoolkidcdoicaa
open Go.RowKit

set_option maxHeartbeats 1000000 in
set_option maxRecDepth 100000 in
theorem awake_any (w : World) : Calls Try.prog 8 #[] w fun e w' => e = .returned (.bool true) ∧ Below w.heap.size w w' := by
  go_enter Try.func8, Try.ntmps8
  go_wp2_with fail
  have q1 := rd_lit w .i64 [1] #[.int .i64 1] 3 _ rfl rfl (by decide)
  have q2 := q1.below (below_lit _ (.cells #[.int .i64 2, .int .i64 3] 3))
  have q3 := rd_lit (w.alloc (.cells #[.int .i64 1] 3)) .i64 [2, 3] #[.int .i64 2, .int .i64 3] 3 (w.heap.size + 1) (by simp) rfl (by decide)
  refine (Push_is _ _ 1 2 3 [1] [2, 3] _ 1 2 [1, 2, 3] 0 rfl rfl (by decide) (by decide) q2 q3 (by decide)).mono ?_
  clear q1 q2 q3
  rintro e w1 ⟨A, c, rfl, hx, hb⟩
  have HX := Lib.hid hx
  have HB := Lib.hid (below_two (below_two (below_lit w _) (below_lit _ _)) hb)
  clear hx hb
  go_wp2_with fail
  refine (Roll_is A c 2 [1, 2, 3] w1 3 [2, 3, 1] 0 rfl (by decide) (by decide) HX.out (by decide)).mono ?_
  rintro e w2 ⟨A2, c2, rfl, hr, hb⟩
  (replace HX := Lib.hid (Rd.below (Hid.out HX) hb))
  have HR := Lib.hid hr
  have HB := Lib.hid (below_two HB.out hb)
  clear hr hb
  go_wp2_with fail
  have q1 := rd_lit w2 .i64 [4] #[.int .i64 4] 3 _ rfl rfl (by decide)
  have q2 := HX.out.below (below_lit _ (.cells #[.int .i64 4] 3))
  refine (Push_is A _ c 1 3 [1, 2, 3] [4] _ 3 1 [] (-3) rfl rfl (by decide) (by decide) q2 q1 (by decide)).mono ?_
  clear q1 q2
  rintro e w3 ⟨A3, c3, rfl, _, hb⟩
  have hb := below_two (below_lit w2 _) hb
  (replace HX := Lib.hid (Rd.below (Hid.out HX) hb); replace HR := Lib.hid (Rd.below (Hid.out HR) hb))
  have HB := Lib.hid (below_two HB.out hb)
  clear hb
  go_wp2_with fail
  refine (Pop_is A c 2 [1, 2, 3] w3 3 [1] [2, 3] 0 rfl (by decide) (by decide) (by decide) HX.out (by decide)).mono ?_
  rintro e w4 ⟨A4, c4, A5, c5, rfl, _, ht, hb⟩
  (replace HX := Lib.hid (Rd.below (Hid.out HX) hb); replace HR := Lib.hid (Rd.below (Hid.out HR) hb))
  have HT := Lib.hid ht
  have HB := Lib.hid (below_two HB.out hb)
  clear ht hb
  go_wp2_with fail
  refine (Pick_is A c 1 [1, 2, 3] w4 3 2 0 rfl (by decide) (by decide) HX.out).mono ?_
  rintro e w5 ⟨rfl, hb⟩
  have HB := Lib.hid (below_two HB.out hb)
  obtain ⟨a2, rfl, h2⟩ := RdI.all (HR.out.below hb) (by decide)
  obtain ⟨a5, rfl, h5⟩ := RdI.all (HT.out.below hb) (by decide)
  have k2 := h2 2 (by decide)
  have k5 := h5 1 (by decide)
  simp only [List.getD_cons_succ, List.getD_cons_zero] at k2 k5
  change w5.cell? ⟨a2.block, a2.off + 2, none⟩ = _ at k2
  change w5.cell? ⟨a5.block, a5.off + 1, none⟩ = _ at k5
  clear hb h2 h5 HT HR HX
  go_wp2
  go_ret
  exact ⟨rfl, HB.out⟩
end Go.Proofs.Ytfoolkidcdoicaa
