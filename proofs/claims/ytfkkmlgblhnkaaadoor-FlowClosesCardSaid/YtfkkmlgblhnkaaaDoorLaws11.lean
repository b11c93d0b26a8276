
/- The walk of FlowDoes. -/
import Derived.Test.YtfkkmlgblhnkaaaDoorAwake11
import Derived.Test.YtfkkmlgblhnkaaaDoorRDoF
import Derived.Test.YtfkkmlgblhnkaaaDoorPlainD11
import Derived.Test.YtfkkmlgblhnkaaaDoorSame10b
namespace Go.Proofs.YtfkkmlgblhnkaaaDoor
open Go.RowKit

set_option maxRecDepth 100000 in
set_option maxHeartbeats 8000000 in
theorem FlowDoes_walk (q : Ad) (s : Ps) (op : Int) (w : World) (hp : RdP w q s) (ht : Tab w) :
    Calls Tryd.prog 3 #[stV q s, .int .i64 op] w fun e w' => e = .returned (.bool true) ∧ Below w.heap.size w w' := by
  have HP := Lib.hid hp
  have HT := Lib.hid ht
  have HB0 := Lib.hid (below_lit w (.cells (stL q s).toArray 28))
  have HG0 : Hid (Bx (w.alloc (.cells (stL q s).toArray 28)) w.heap.size 28 (stL q s)) := Lib.hid (Bx.new w _ _ _ _ rfl rfl)
  clear hp ht
  rw [stV_eq q s]
  go_enter Tryd.func3, Tryd.ntmps3
  go_wp2_with fail
  refine (awake_any _ (HT.out.below HB0.out)).mono ?_
  rintro e w1 ⟨rfl, hb⟩
  have HB := Lib.hid (below_two HB0.out hb)
  have HG := Lib.hid (HG0.out.below hb)
  clear hb HB0 HG0
  go_wp2_with (refine wp_loadS rfl 28 _ rfl w.heap.size rfl 28 (stL q s) _ HG.out Tryd.underlying28 rfl 15 infoSt rfl ?_)
  refine (Few_any q s w1 (HP.out.below HB.out)).mono ?_
  rintro e w2 ⟨⟨b, rfl, hf⟩, hb⟩
  have HF := Lib.hid hf
  have HB := Lib.hid (below_two HB.out hb)
  have HG := Lib.hid (HG.out.below hb)
  clear hb hf
  cases b with
  | false =>
    go_wp2
    go_ret
    exact ⟨rfl, HB.out⟩
  | true =>
    have hfs := HF.out rfl
    have HFS := Lib.hid hfs
    clear hfs HF
    have c0 : w2.cell? ⟨w.heap.size, 0, none⟩ = some (.slice q.m s.mem.length q.mc) := HG.out.cell 0
    have v0 := conv_rd (P := Tryd.prog) Tryd.underlying22 Tryd.underlying5 Tryd.underlying9 (HP.out.below HB.out).mem
    obtain ⟨s1, e1, b1, hd⟩ : ∃ a b c, doF s op = (a, b, c) := ⟨_, _, _, rfl⟩
    have HD := Lib.hid hd
    have HLE : Hid (LeD s1 s 6) := Lib.hid (by have h := LeD.do_ s op; rw [hd] at h; exact h)
    have HSZ : Hid (Sz s 100000) := Lib.hid ⟨by have := HFS.out.mem; omega, by have := HFS.out.spots; omega, by have := HFS.out.ctl; omega⟩
    clear hd
    go_wp2_with (refine wp_loadS rfl 28 _ rfl w.heap.size rfl 28 (stL q s) _ HG.out Tryd.underlying28 rfl 15 infoSt rfl ?_)
    clear c0 v0
    refine (DoF_any op q s s1 e1 b1 w2 HD.out (HP.out.below HB.out) HSZ.out (by have := HFS.out.words; omega) (HT.out.below HB.out)).mono ?_
    rintro e v1 ⟨q1, rfl, hr, hb⟩
    have HB := Lib.hid (below_two HB.out hb)
    have HG := Lib.hid (HG.out.below hb)
    have HR1 := Lib.hid hr.rd
    clear hr hb
    rw [stV_eq q1 s1]
    obtain ⟨W1, hW⟩ : ∃ W, v1.alloc (.cells #[.slice q1.m s1.mem.length q1.mc, .slice q1.d s1.data.length q1.dc, .slice q1.r s1.ret.length q1.rc, .slice q1.c s1.ctl.length q1.cc, .slice q1.w s1.words.length q1.wc, .slice q1.s s1.spots.length q1.sc, .slice q1.o s1.out.length q1.oc, .int .i64 s1.ip, .int .i64 s1.here, .int .i64 s1.pos, .int .i64 s1.tok, .int .i64 s1.inp, .int .i64 s1.err, .bool s1.comp, .bool s1.halt] 28) = W := ⟨_, rfl⟩
    have hbl : Below v1.heap.size v1 W1 := by rw [← hW]; exact below_lit _ _
    have HB := Lib.hid (below_two HB.out hbl)
    have HG := Lib.hid (HG.out.below hbl)
    have HR1 := Lib.hid (HR1.out.below hbl)
    have HT1 : Hid (Bx W1 v1.heap.size 28 (stL q1 s1)) := Lib.hid (by rw [← hW]; exact Bx.new _ _ _ _ _ rfl rfl)
    have HWW := Lib.hid hW
    clear hbl hW
    go_wp2_with (refine wp_loadS rfl 28 _ rfl w.heap.size rfl 28 (stL q s) _ (by rw [HWW.out]; exact HG.out) Tryd.underlying28 rfl 15 infoSt rfl ?_)
    rw [HWW.out]
    refine (RDoF_any op q s s1 e1 b1 W1 HD.out (HP.out.below HB.out) HSZ.out (by have := HFS.out.words; omega)).mono ?_
    rintro e v2 ⟨q2, rfl, hr, hb⟩
    have HB := Lib.hid (below_two HB.out hb)
    have HG := Lib.hid (HG.out.below hb)
    have HT1 := Lib.hid (HT1.out.below hb)
    have HR1 := Lib.hid (HR1.out.below hb)
    have HR2 := Lib.hid hr.rd
    clear hr hb HWW
    rw [stV_eq q2 s1]
    obtain ⟨W2, hW⟩ : ∃ W, v2.alloc (.cells #[.slice q2.m s1.mem.length q2.mc, .slice q2.d s1.data.length q2.dc, .slice q2.r s1.ret.length q2.rc, .slice q2.c s1.ctl.length q2.cc, .slice q2.w s1.words.length q2.wc, .slice q2.s s1.spots.length q2.sc, .slice q2.o s1.out.length q2.oc, .int .i64 s1.ip, .int .i64 s1.here, .int .i64 s1.pos, .int .i64 s1.tok, .int .i64 s1.inp, .int .i64 s1.err, .bool s1.comp, .bool s1.halt] 28) = W := ⟨_, rfl⟩
    have hbl : Below v2.heap.size v2 W2 := by rw [← hW]; exact below_lit _ _
    have HB := Lib.hid (below_two HB.out hbl)
    have HG := Lib.hid (HG.out.below hbl)
    have HT1 := Lib.hid (HT1.out.below hbl)
    have HR1 := Lib.hid (HR1.out.below hbl)
    have HR2 := Lib.hid (HR2.out.below hbl)
    have HT2 : Hid (Bx W2 v2.heap.size 28 (stL q2 s1)) := Lib.hid (by rw [← hW]; exact Bx.new _ _ _ _ _ rfl rfl)
    have HWW := Lib.hid hW
    clear hbl hW
    go_wp2_with (first
      | (refine wp_take rfl ?_; refine wp_loadS rfl 28 _ rfl v1.heap.size rfl 28 (stL q1 s1) _ (by rw [HWW.out]; exact HT1.out) Tryd.underlying28 rfl 15 infoSt rfl ?_)
      | (refine wp_take rfl ?_; refine wp_loadS rfl 28 _ rfl v2.heap.size rfl 28 (stL q2 s1) _ (by rw [HWW.out]; exact HT2.out) Tryd.underlying28 rfl 15 infoSt rfl ?_))
    rw [HWW.out]
    refine (Same_any q1 q2 s1 W2 HR1.out HR2.out (by have := HLE.out.data; have := HFS.out.data; omega) (by have := HLE.out.ret; have := HFS.out.ret; omega) (by have := HLE.out.ctl; have := HFS.out.ctl; omega) (by have := HLE.out.words; have := HFS.out.words; omega) (by have := HLE.out.spots; have := HFS.out.spots; omega)).mono ?_
    rintro e u3 ⟨rfl, hb⟩
    have HB := Lib.hid (below_two HB.out hb)
    have HG := Lib.hid (HG.out.below hb)
    clear hb
    have c0 : u3.cell? ⟨w.heap.size, 0, none⟩ = some (.slice q.m s.mem.length q.mc) := HG.out.cell 0
    have v0 := conv_rd (P := Tryd.prog) Tryd.underlying22 Tryd.underlying5 Tryd.underlying9 (HP.out.below HB.out).mem
    go_wp2
    go_ret
    exact ⟨rfl, HB.out⟩
end Go.Proofs.YtfkkmlgblhnkaaaDoor
