
/- nostosref11.Do, any word. Printed by genrdof.py. -/
import Derived.Test.YtfkkmlgblhnkaaaDoorRDo98
import Derived.Test.YtfkkmlgblhnkaaaDoorRDo99
import Derived.Test.YtfkkmlgblhnkaaaDoorRDo100
import Derived.Test.YtfkkmlgblhnkaaaDoorRDo101
import Derived.Test.YtfkkmlgblhnkaaaDoorRDo102
import Derived.Test.YtfkkmlgblhnkaaaDoorRDo103
import Derived.Test.YtfkkmlgblhnkaaaDoorRDo104
import Derived.Test.YtfkkmlgblhnkaaaDoorRDo105
import Derived.Test.YtfkkmlgblhnkaaaDoorRDo106
import Derived.Test.YtfkkmlgblhnkaaaDoorRDo107
import Derived.Test.YtfkkmlgblhnkaaaDoorRDo108
import Derived.Test.YtfkkmlgblhnkaaaDoorRDo109
import Derived.Test.YtfkkmlgblhnkaaaDoorDoG11
namespace Go.Proofs.YtfkkmlgblhnkaaaDoor
open Go.RowKit

set_option maxRecDepth 100000 in
set_option maxHeartbeats 4000000 in
theorem RDo_109 (q : Ad) (s s' : Ps) (e' : Int) (w : World) (hr : recurseW (s, 0) = (s', e')) (hp : RdP w q s) (hz : Sz s 100000) (hwl : s.words.length ≤ 1000000) :
    Calls Tryd.prog 11 #[stV q s, .int .i64 109] w fun r w' => ∃ q', r = .returned (.tuple #[stV q' s', .int .i64 e', .bool true]) ∧ Res w.heap.size q s w' q' s' ∧ Below w.heap.size w w' := by
  have HPw := Lib.hid hp
  have HHR := Lib.hid hr
  obtain ⟨W0, hW0, hb0, hg0, hr0⟩ := two_boxes q s w
  have HB0 := Lib.hid hb0
  have HG0 := Lib.hid hg0
  have HR0 := Lib.hid hr0
  have hW0' : (w.alloc (.cells #[.slice q.m s.mem.length q.mc, .slice q.d s.data.length q.dc, .slice q.r s.ret.length q.rc, .slice q.c s.ctl.length q.cc, .slice q.w s.words.length q.wc, .slice q.s s.spots.length q.sc, .slice q.o s.out.length q.oc, .int .i64 s.ip, .int .i64 s.here, .int .i64 s.pos, .int .i64 s.tok, .int .i64 s.inp, .int .i64 s.err, .bool s.comp, .bool s.halt] 28)).alloc (.cells #[.slice none 0 0, .slice none 0 0, .slice none 0 0, .slice none 0 0, .slice none 0 0, .slice none 0 0, .slice none 0 0, .int .i64 0, .int .i64 0, .int .i64 0, .int .i64 0, .int .i64 0, .int .i64 0, .bool false, .bool false] 28) = W0 := hW0
  clear hW0 hb0 hg0 hr0 hp hr
  rw [stV_eq q s]
  go_enter Tryd.func11, Tryd.ntmps11
  go_wp2_with (refine wp_loadS rfl 28 _ rfl w.heap.size rfl 28 (stL q s) _ HG0.out Tryd.underlying28 rfl 15 infoSt rfl ?_)
  try rw [hW0']
  clear hW0'
  refine (RRecurse_any q s s' e' W0 HHR.out (HPw.out.below HB0.out) hz hwl).mono ?_
  rintro r w1 ⟨q1, rfl, hres, hb1⟩
  have hwW : w.heap.size + 2 ≤ W0.heap.size := HR0.out.lt
  obtain ⟨TB, hTB⟩ : ∃ n, w1.heap.size = n := ⟨_, rfl⟩
  have HR1 := Lib.hid (HR0.out.below hb1)
  have HB1 := Lib.hid (below_two HB0.out hb1)
  have HQ1 := Lib.hid hres
  have hT1 : w.heap.size + 2 ≤ TB := by rw [← hTB]; exact HR1.out.lt
  have HLI : Hid (Lies q1 s' (fun b => b ≠ TB)) := Lib.hid (HQ1.out.rd.lies.mono (fun b h => by omega))
  have HT2 : Hid (Bx (w1.alloc (.cells (stL nilA zeroP).toArray 28)) TB 28 (stL nilA zeroP)) := Lib.hid (Bx.new w1 _ _ _ _ hTB rfl)
  have HR2 := Lib.hid (HR1.out.alloc (.cells (stL nilA zeroP).toArray 28))
  have HB2 : Hid (Below w.heap.size w (w1.alloc (.cells (stL nilA zeroP).toArray 28))) := Lib.hid (below_two HB1.out (below_lit w1 _))
  have HQ2 : Hid (Res W0.heap.size q s (w1.alloc (.cells (stL nilA zeroP).toArray 28)) q1 s') := Lib.hid (HQ1.out.below (below_lit w1 _))
  clear hres hb1 HG0 HR0 HB0 HR1 HB1 HQ1
  go_wp2_with ((try rw [hTB]); refine wp_storeS rfl 28 _ _ rfl TB (stL q1 s') rfl rfl 28 _ HT2.out 15 infoSt rfl rfl rfl ?_)
  intro w3 hg3 hw3
  have HT3 := Lib.hid hg3
  have HR3 := Lib.hid (HR2.out.grown hw3 (by omega))
  have HB3 := Lib.hid (below_grown HB2.out (by have := HB2.out.size; omega) hw3 (by omega))
  have HQ3 := Lib.hid (HQ2.out.grown' HLI.out hw3)
  clear hg3 hw3 HT2 HR2 HB2 HQ2 HLI hTB
  go_wp2_with (first
    | (refine wp_loadS rfl 28 _ rfl TB rfl 28 (stL q1 s') _ HT3.out Tryd.underlying28 rfl 15 infoSt rfl ?_)
    | (refine wp_storeS rfl 28 _ _ rfl (w.heap.size + 1) (stL q1 s') rfl rfl 28 _ HR3.out 15 infoSt rfl rfl rfl ?_))
  intro w4 hg4 hw4
  have HR4 := Lib.hid hg4
  have HB4 := Lib.hid (below_grown HB3.out HB3.out.size hw4 (by omega))
  have HQ4 : Hid (Res W0.heap.size q s w4 q1 s') := Lib.hid (HQ3.out.grown HPw.out hw4 (by omega) (by omega))
  clear hg4 hw4
  go_wp2
  refine bodyPost_ret (results_S3 rfl _ _ (w.heap.size + 1) 28 (stL q1 s') _ rfl HR4.out Tryd.underlying28 rfl 15 infoSt rfl _ _ rfl rfl) rfl ?_
  exact ⟨_, rfl, HQ4.out.mono (by omega), HB4.out⟩

set_option maxRecDepth 100000 in
set_option maxHeartbeats 4000000 in
theorem RDo_none (op : Int) (q : Ad) (s : Ps) (w : World) (ho : op < 98 ∨ 109 < op) :
    Calls Tryd.prog 11 #[stV q s, .int .i64 op] w fun r w' => r = .returned (.tuple #[stV nilA zeroP, .int .i64 0, .bool false]) ∧ Below w.heap.size w w' := by
  obtain ⟨W0, hW0, hb0, hg0, hr0⟩ := two_boxes q s w
  have HB0 := Lib.hid hb0
  have HR0 := Lib.hid hr0
  have HW0 : Hid ((w.alloc (.cells #[.slice q.m s.mem.length q.mc, .slice q.d s.data.length q.dc, .slice q.r s.ret.length q.rc, .slice q.c s.ctl.length q.cc, .slice q.w s.words.length q.wc, .slice q.s s.spots.length q.sc, .slice q.o s.out.length q.oc, .int .i64 s.ip, .int .i64 s.here, .int .i64 s.pos, .int .i64 s.tok, .int .i64 s.inp, .int .i64 s.err, .bool s.comp, .bool s.halt] 28)).alloc (.cells #[.slice none 0 0, .slice none 0 0, .slice none 0 0, .slice none 0 0, .slice none 0 0, .slice none 0 0, .slice none 0 0, .int .i64 0, .int .i64 0, .int .i64 0, .int .i64 0, .int .i64 0, .int .i64 0, .bool false, .bool false] 28) = W0) := Lib.hid hW0
  clear hW0 hb0 hg0 hr0
  rw [stV_eq q s]
  by_cases h98 : op < 98
  · go_enter Tryd.func11, Tryd.ntmps11
    go_wp2_with (rw [HW0.out]; refine wp_storeS rfl 28 _ _ rfl (w.heap.size + 1) (stL nilA zeroP) rfl rfl 28 _ HR0.out 15 infoSt rfl rfl rfl ?_)
    intro wz hgz hwz
    have HRz := Lib.hid hgz
    have HBz := Lib.hid (below_grown HB0.out HB0.out.size hwz (by omega))
    clear hgz hwz
    go_wp2
    refine bodyPost_ret (results_S3 rfl _ _ (w.heap.size + 1) 28 (stL nilA zeroP) _ rfl HRz.out Tryd.underlying28 rfl 15 infoSt rfl _ _ rfl rfl) rfl ?_
    exact ⟨rfl, HBz.out⟩
  · have h109 : op > 109 := by omega
    have h109' : 109 < op := h109
    clear ho
    go_enter Tryd.func11, Tryd.ntmps11
    go_wp2_with (rw [HW0.out]; refine wp_storeS rfl 28 _ _ rfl (w.heap.size + 1) (stL nilA zeroP) rfl rfl 28 _ HR0.out 15 infoSt rfl rfl rfl ?_)
    intro wz hgz hwz
    have HRz := Lib.hid hgz
    have HBz := Lib.hid (below_grown HB0.out HB0.out.size hwz (by omega))
    clear hgz hwz
    go_wp2
    refine bodyPost_ret (results_S3 rfl _ _ (w.heap.size + 1) 28 (stL nilA zeroP) _ rfl HRz.out Tryd.underlying28 rfl 15 infoSt rfl _ _ rfl rfl) rfl ?_
    exact ⟨rfl, HBz.out⟩

/-- A call that throws hands back the state of zeroes. -/
theorem recurse_res (s : Ps) : resF (recurseW (s, 0)) = ((recurseW (s, 0)).1, (recurseW (s, 0)).2, true) := by
  unfold recurseW
  cases s.words.getLast? with
  | none => rfl
  | some u =>
    dsimp only
    split
    · rw [if_pos rfl]
      unfold resF
      split
      · rename_i h
        rw [show emitE s [u.code] = 0 from h]
      · rename_i h
        rw [emitS_no _ _ h]
    · rfl
theorem refF_true {s : Ps} {K : List Int} {code : Option (List Int)} {st : Option Int} {c : Nat} {opn : Int → Int → List Int} {s' : Ps} {e' : Int} {b : Bool} (h : refF s K code st c opn = (s', e', b)) : b = true := by
  unfold refF at h
  repeat' (split at h)
  all_goals (injection h with _ h; injection h with _ h; exact h.symm)
set_option maxRecDepth 100000 in
theorem RDoF_any (op : Int) (q : Ad) (s : Ps) (s' : Ps) (e' : Int) (b : Bool) (w : World) (hr : doF s op = (s', e', b)) (hp : RdP w q s) (hz : Sz s 100000) (hwl : s.words.length ≤ 1000000) :
    Calls Tryd.prog 11 #[stV q s, .int .i64 op] w fun r w' => ∃ q', r = .returned (.tuple #[stV q' s', .int .i64 e', .bool b]) ∧ Res w.heap.size q s w' q' s' ∧ Below w.heap.size w w' := by
  unfold doF at hr
  by_cases h98 : op = 98
  · subst h98
    simp only [Int.reduceEq, if_true, if_false] at hr
    rw [forward_ref s 4 1] at hr
    have hb := refF_true hr
    subst hb
    exact RDo_98 q s s' e' w hr hp hz
  rw [if_neg h98] at hr
  by_cases h99 : op = 99
  · subst h99
    simp only [Int.reduceEq, if_true, if_false] at hr
    rw [else_ref s] at hr
    have hb := refF_true hr
    subst hb
    exact RDo_99 q s s' e' w hr hp hz
  rw [if_neg h99] at hr
  by_cases h100 : op = 100
  · subst h100
    simp only [Int.reduceEq, if_true, if_false] at hr
    rw [then_ref s] at hr
    have hb := refF_true hr
    subst hb
    exact RDo_100 q s s' e' w hr hp hz
  rw [if_neg h100] at hr
  by_cases h101 : op = 101
  · subst h101
    simp only [Int.reduceEq, if_true, if_false] at hr
    rw [begin_ref s] at hr
    have hb := refF_true hr
    subst hb
    exact RDo_101 q s s' e' w hr hp hz
  rw [if_neg h101] at hr
  by_cases h102 : op = 102
  · subst h102
    simp only [Int.reduceEq, if_true, if_false] at hr
    rw [back_ref s 3] at hr
    have hb := refF_true hr
    subst hb
    exact RDo_102 q s s' e' w hr hp hz
  rw [if_neg h102] at hr
  by_cases h103 : op = 103
  · subst h103
    simp only [Int.reduceEq, if_true, if_false] at hr
    rw [back_ref s 4] at hr
    have hb := refF_true hr
    subst hb
    exact RDo_103 q s s' e' w hr hp hz
  rw [if_neg h103] at hr
  by_cases h104 : op = 104
  · subst h104
    simp only [Int.reduceEq, if_true, if_false] at hr
    rw [while_ref s] at hr
    have hb := refF_true hr
    subst hb
    exact RDo_104 q s s' e' w hr hp hz
  rw [if_neg h104] at hr
  by_cases h105 : op = 105
  · subst h105
    simp only [Int.reduceEq, if_true, if_false] at hr
    rw [repeat_ref s] at hr
    have hb := refF_true hr
    subst hb
    exact RDo_105 q s s' e' w hr hp hz
  rw [if_neg h105] at hr
  by_cases h106 : op = 106
  · subst h106
    simp only [Int.reduceEq, if_true, if_false] at hr
    rw [forward_ref s 5 3] at hr
    have hb := refF_true hr
    subst hb
    exact RDo_106 q s s' e' w hr hp hz
  rw [if_neg h106] at hr
  by_cases h107 : op = 107
  · subst h107
    simp only [Int.reduceEq, if_true, if_false] at hr
    rw [shut_ref s 6] at hr
    have hb := refF_true hr
    subst hb
    exact RDo_107 q s s' e' w hr hp hz
  rw [if_neg h107] at hr
  by_cases h108 : op = 108
  · subst h108
    simp only [Int.reduceEq, if_true, if_false] at hr
    rw [shut_ref s 7] at hr
    have hb := refF_true hr
    subst hb
    exact RDo_108 q s s' e' w hr hp hz
  rw [if_neg h108] at hr
  by_cases h109 : op = 109
  · subst h109
    simp only [if_true] at hr
    rw [recurse_res] at hr
    injection hr with h1 h2
    injection h2 with h2 h3
    subst h3
    exact RDo_109 q s s' e' w (by rw [← h1, ← h2]) hp hz hwl
  rw [if_neg h109] at hr
  injection hr with h1 h2
  injection h2 with h2 h3
  subst h1 h2 h3
  refine (RDo_none op q s w (by omega)).mono ?_
  rintro r w' ⟨rfl, hb⟩
  exact ⟨nilA, rfl, Res.zero _ _ _ _, hb⟩
end Go.Proofs.YtfkkmlgblhnkaaaDoor
