
/- The walk of DefsDoes. -/
import Derived.Test.YtappfhjknihboaaGreatDoorAwake12
import Derived.Test.YtappfhjknihboaaGreatDoorRDoD
import Derived.Test.YtappfhjknihboaaGreatDoorPlainD12
import Derived.Test.YtappfhjknihboaaGreatDoorMK
namespace Go.Proofs.YtappfhjknihboaaGreatDoor
open Go.RowKit

set_option maxRecDepth 100000 in
set_option maxHeartbeats 8000000 in
theorem DefsDoes_walk (q : Ad) (s : Ps) (x : Sx) (op : Int) (w : World) (hp : RdP w q s) (hh : -9223372036854775808 ≤ s.here ∧ s.here ≤ 9223372036854775807) (ht : Tab w) :
    Calls Tryz.prog 3 #[stV q s, suV x, .int .i64 op] w fun e w' => e = .returned (.bool true) ∧ Below w.heap.size w w' := by
  have HP := Lib.hid hp
  have HT := Lib.hid ht
  have HH := Lib.hid hh
  have hB0 := below_two (below_lit w (.cells (stL q s).toArray 28)) (below_lit _ (.cells (suL x).toArray 30))
  have hS : Bx ((w.alloc (.cells (stL q s).toArray 28)).alloc (.cells (suL x).toArray 30)) w.heap.size 28 (stL q s) := (Bx.new w _ _ _ _ rfl rfl).alloc _
  have hX : Bx ((w.alloc (.cells (stL q s).toArray 28)).alloc (.cells (suL x).toArray 30)) (w.heap.size + 1) 30 (suL x) := Bx.new _ _ _ _ _ (by simp) rfl
  obtain ⟨W, hW⟩ : ∃ W, (w.alloc (.cells #[.slice q.m s.mem.length q.mc, .slice q.d s.data.length q.dc, .slice q.r s.ret.length q.rc, .slice q.c s.ctl.length q.cc, .slice q.w s.words.length q.wc, .slice q.s s.spots.length q.sc, .slice q.o s.out.length q.oc, .int .i64 s.ip, .int .i64 s.here, .int .i64 s.pos, .int .i64 s.tok, .int .i64 s.inp, .int .i64 s.err, .bool s.comp, .bool s.halt] 28)).alloc (.cells #[.string x.src, .slice x.iA x.iN x.iC, .int .i64 x.size, .int .i64 x.depth, .int .i64 x.room] 30) = W := ⟨_, rfl⟩
  have HB0 : Hid (Below w.heap.size w W) := Lib.hid (by rw [← hW]; exact hB0)
  have HG0 : Hid (Bx W w.heap.size 28 (stL q s)) := Lib.hid (by rw [← hW]; exact hS)
  have HX0 : Hid (Bx W (w.heap.size + 1) 30 (suL x)) := Lib.hid (by rw [← hW]; exact hX)
  have HWW := Lib.hid hW
  clear hp ht hh hB0 hS hX hW
  rw [stV_eq q s, suV_eq x]
  go_enter Tryz.func3, Tryz.ntmps3
  go_upto_region 1 with fail
  rw [HWW.out]
  go_wp2_with fail
  refine (awake_any _ (HT.out.below HB0.out)).mono ?_
  rintro e w1 ⟨rfl, hb⟩
  have HB := Lib.hid (below_two HB0.out hb)
  have HG := Lib.hid (HG0.out.below hb)
  have HX := Lib.hid (HX0.out.below hb)
  clear hb HB0 HG0 HX0 HWW
  go_wp2_with (first
    | (refine wp_loadS rfl 28 _ rfl w.heap.size rfl 28 (stL q s) _ HG.out Tryz.underlying28 rfl 15 infoSt rfl ?_)
    | (refine wp_loadS rfl 30 _ rfl (w.heap.size + 1) rfl 30 (suL x) _ HX.out Tryz.underlying30 rfl 5 infoSx rfl ?_))
  refine (Few12_any q s x w1 (HP.out.below HB.out)).mono ?_
  rintro e w2 ⟨⟨b, rfl, hf⟩, hb⟩
  have HF := Lib.hid hf
  have HB := Lib.hid (below_two HB.out hb)
  have HG := Lib.hid (HG.out.below hb)
  have HX := Lib.hid (HX.out.below hb)
  clear hb hf
  cases b with
  | false =>
    go_wp2
    go_ret
    exact ⟨rfl, HB.out⟩
  | true =>
    have hfs := HF.out rfl
    have HFS := Lib.hid hfs
    have HZ : Hid (SzD s) := Lib.hid ⟨by have := hfs.few.mem; omega, by have := hfs.few.data; omega, by have := hfs.few.spots; omega, by have := hfs.few.words; omega, by have := hfs.few.out; omega, fun y hy => by have := hfs.nms y hy; omega⟩
    clear hfs HF
    have c0 : w2.cell? ⟨w.heap.size, 0, none⟩ = some (.slice q.m s.mem.length q.mc) := HG.out.cell 0
    have v0 := conv_rd (P := Tryz.prog) Tryz.underlying22 Tryz.underlying5 Tryz.underlying9 (HP.out.below HB.out).mem
    obtain ⟨s1, e1, b1, hd⟩ : ∃ a b c, doD x s op = (a, b, c) := ⟨_, _, _, rfl⟩
    have HD := Lib.hid hd
    have HLE : Hid (LeB s1 s 10) := Lib.hid (by have h := doD_le x s op; rw [hd] at h; exact h)
    clear hd
    go_wp2_with (first
      | (refine wp_loadS rfl 28 _ rfl w.heap.size rfl 28 (stL q s) _ HG.out Tryz.underlying28 rfl 15 infoSt rfl ?_)
      | (refine wp_loadS rfl 30 _ rfl (w.heap.size + 1) rfl 30 (suL x) _ HX.out Tryz.underlying30 rfl 5 infoSx rfl ?_))
    clear c0 v0
    refine (DoD_any op q s x s1 e1 b1 w2 HD.out (HP.out.below HB.out) HFS.out.src HZ.out (HT.out.below HB.out)).mono ?_
    rintro e v1 ⟨q1, rfl, hr, hb⟩
    have HB := Lib.hid (below_two HB.out hb)
    have HG := Lib.hid (HG.out.below hb)
    have HX := Lib.hid (HX.out.below hb)
    have HR1 := Lib.hid hr.rd
    clear hr hb
    have HBL := Lib.hid (below_lit v1 (.cells (stL nilA zeroP).toArray 28))
    have HBN : Hid (Bx (v1.alloc (.cells (stL nilA zeroP).toArray 28)) v1.heap.size 28 (stL nilA zeroP)) := Lib.hid (Bx.new v1 _ _ _ _ rfl rfl)
    go_wp2_with (refine wp_storeS rfl 28 _ _ rfl v1.heap.size (stL q1 s1) rfl rfl 28 (stL nilA zeroP) HBN.out 15 infoSt rfl rfl (stL_one _ _) ?_)
    intro wv1 hg5 hw5
    have HNv1 : Hid (Below v1.heap.size v1 wv1) := Lib.hid (below_grown HBL.out HBL.out.size hw5 (Nat.le_refl _))
    obtain ⟨g1, hg⟩ : ∃ g, v1.heap.size = g := ⟨_, rfl⟩
    have Hg1 : Hid (Bx wv1 g1 28 (stL q1 s1)) := Lib.hid (by rw [← hg]; exact hg5)
    rw [hg]
    have HG := Lib.hid (HG.out.below HNv1.out)
    have HX := Lib.hid (HX.out.below HNv1.out)
    have HR1 := Lib.hid (HR1.out.below HNv1.out)
    have HB := Lib.hid (below_two HB.out HNv1.out)
    clear hg5 hw5 hg HBL HBN HNv1
    go_wp2_with (first
      | (refine wp_loadS rfl 28 _ rfl w.heap.size rfl 28 (stL q s) _ HG.out Tryz.underlying28 rfl 15 infoSt rfl ?_)
      | (refine wp_loadS rfl 30 _ rfl (w.heap.size + 1) rfl 30 (suL x) _ HX.out Tryz.underlying30 rfl 5 infoSx rfl ?_))
    refine (RDo_any op q s x s1 e1 b1 wv1 HD.out (HP.out.below HB.out) HFS.out.src HZ.out HH.out.1 HH.out.2).mono ?_
    rintro e v2 ⟨q2, rfl, hr, hb⟩
    have HB := Lib.hid (below_two HB.out hb)
    have HG := Lib.hid (HG.out.below hb)
    have HR1 := Lib.hid (HR1.out.below hb)
    have Hg1 := Lib.hid (Hg1.out.below hb)
    have HR2 := Lib.hid hr.rd
    clear hr hb
    have HBL := Lib.hid (below_lit v2 (.cells (stL nilA zeroP).toArray 28))
    have HBN : Hid (Bx (v2.alloc (.cells (stL nilA zeroP).toArray 28)) v2.heap.size 28 (stL nilA zeroP)) := Lib.hid (Bx.new v2 _ _ _ _ rfl rfl)
    go_wp2_with (refine wp_storeS rfl 28 _ _ rfl v2.heap.size (stL q2 s1) rfl rfl 28 (stL nilA zeroP) HBN.out 15 infoSt rfl rfl (stL_one _ _) ?_)
    intro wv2 hg5 hw5
    have HNv2 : Hid (Below v2.heap.size v2 wv2) := Lib.hid (below_grown HBL.out HBL.out.size hw5 (Nat.le_refl _))
    obtain ⟨g2, hg⟩ : ∃ g, v2.heap.size = g := ⟨_, rfl⟩
    have Hg2 : Hid (Bx wv2 g2 28 (stL q2 s1)) := Lib.hid (by rw [← hg]; exact hg5)
    rw [hg]
    have HG := Lib.hid (HG.out.below HNv2.out)
    have HR1 := Lib.hid (HR1.out.below HNv2.out)
    have HR2 := Lib.hid (HR2.out.below HNv2.out)
    have Hg1 := Lib.hid (Hg1.out.below HNv2.out)
    have HB := Lib.hid (below_two HB.out HNv2.out)
    clear hg5 hw5 hg HBL HBN HNv2
    go_wp2_with (first
      | (refine wp_take rfl ?_; refine wp_loadS rfl 28 _ rfl g1 rfl 28 (stL q1 s1) _ Hg1.out Tryz.underlying28 rfl 15 infoSt rfl ?_)
      | (refine wp_take rfl ?_; refine wp_loadS rfl 28 _ rfl g2 rfl 28 (stL q2 s1) _ Hg2.out Tryz.underlying28 rfl 15 infoSt rfl ?_))
    refine (Same_any q1 q2 s1 wv2 HR1.out HR2.out (by have := HLE.out.data; have := HFS.out.few.data; omega) (by have := HLE.out.ret; have := HFS.out.few.ret; omega) (by have := HLE.out.ctl; have := HFS.out.few.ctl; omega) (by have := HLE.out.words; have := HFS.out.few.words; omega) (by have := HLE.out.spots; have := HFS.out.few.spots; omega)).mono ?_
    rintro e u3 ⟨rfl, hb⟩
    have HB := Lib.hid (below_two HB.out hb)
    have HG := Lib.hid (HG.out.below hb)
    clear hb
    have c0 : u3.cell? ⟨w.heap.size, 0, none⟩ = some (.slice q.m s.mem.length q.mc) := HG.out.cell 0
    have v0 := conv_rd (P := Tryz.prog) Tryz.underlying22 Tryz.underlying5 Tryz.underlying9 (HP.out.below HB.out).mem
    go_wp2
    go_ret
    exact ⟨rfl, HB.out⟩
end Go.Proofs.YtappfhjknihboaaGreatDoor
