
/- The walk of DefsFinds. -/
import Derived.Test.YtappfhjknihboaaGreatDoorLaws12
namespace Go.Proofs.YtappfhjknihboaaGreatDoor
open Go.RowKit

set_option maxRecDepth 100000 in
set_option maxHeartbeats 8000000 in
theorem DefsFinds_walk (q : Ad) (s : Ps) (x : Sx) (nm : ByteArray) (w : World) (hp : RdP w q s) (hh : -9223372036854775808 ≤ s.here ∧ s.here ≤ 9223372036854775807) (ht : Tab w) :
    Calls Tryz.prog 4 #[stV q s, suV x, .string nm] w fun e w' => e = .returned (.bool true) ∧ Below w.heap.size w w' := by
  have HP := Lib.hid hp
  have HT := Lib.hid ht
  have HH := Lib.hid hh
  have hB0 := below_two (below_lit w (.cells (stL q s).toArray 28)) (below_lit _ (.cells (suL x).toArray 30))
  have hS : Bx ((w.alloc (.cells (stL q s).toArray 28)).alloc (.cells (suL x).toArray 30)) w.heap.size 28 (stL q s) := (Bx.new w _ _ _ _ rfl rfl).alloc _
  have hX : Bx ((w.alloc (.cells (stL q s).toArray 28)).alloc (.cells (suL x).toArray 30)) (w.heap.size + 1) 30 (suL x) := Bx.new _ _ _ _ _ (by simp) rfl
  obtain ⟨W, hW⟩ : ∃ W, (w.alloc (.cells #[.slice q.m s.mem.length q.mc, .slice q.d s.data.length q.dc, .slice q.r s.ret.length q.rc, .slice q.c s.ctl.length q.cc, .slice q.w s.words.length q.wc, .slice q.s s.spots.length q.sc, .slice q.o s.out.length q.oc, .int .i64 s.ip, .int .i64 s.here, .int .i64 s.pos, .int .i64 s.tok, .int .i64 s.inp, .int .i64 s.err, .bool s.comp, .bool s.halt] 28)).alloc (.cells #[.string x.src, .slice x.iA x.iN x.iC, .int .i64 x.size, .int .i64 x.depth, .int .i64 x.room] 30) = W := ⟨_, rfl⟩
  have HB0 : Hid (Below w.heap.size w W) := Lib.hid (by rw [← hW]; exact hB0)
  have HG0 : Hid (Bx W w.heap.size 28 (stL q s)) := Lib.hid (by rw [← hW]; exact hS)
  have HX0 : Hid (Bx W (w.heap.size + 1) 30 (suL x)) := Lib.hid (by rw [← hW]; exact hX)
  have HWW := Lib.hid hW
  clear hp ht hh hB0 hS hX hW
  rw [stV_eq q s, suV_eq x]
  go_enter Tryz.func4, Tryz.ntmps4
  go_upto_region 1 with fail
  rw [HWW.out]
  go_wp2_with fail
  refine (awake_any _ (HT.out.below HB0.out)).mono ?_
  rintro e w1 ⟨rfl, hb⟩
  have HB := Lib.hid (below_two HB0.out hb)
  have HG := Lib.hid (HG0.out.below hb)
  have HX := Lib.hid (HX0.out.below hb)
  clear hb HB0 HG0 HX0 HWW
  go_wp2_with (first
    | (refine wp_loadS rfl 28 _ rfl w.heap.size rfl 28 (stL q s) _ HG.out Tryz.underlying28 rfl 15 infoSt rfl ?_)
    | (refine wp_loadS rfl 30 _ rfl (w.heap.size + 1) rfl 30 (suL x) _ HX.out Tryz.underlying30 rfl 5 infoSx rfl ?_))
  refine (Few12_any q s x w1 (HP.out.below HB.out)).mono ?_
  rintro e w2 ⟨⟨b, rfl, hf⟩, hb⟩
  have HF := Lib.hid hf
  have HB := Lib.hid (below_two HB.out hb)
  have HG := Lib.hid (HG.out.below hb)
  have HX := Lib.hid (HX.out.below hb)
  clear hb hf
  have hgt : ∀ v : World, (binOp .gtr 3 (.int .i64 nm.size) (.int .i64 60)).run Tryz.prog v = .ok (.bool (decide (60 < (nm.size : Int)))) v := fun v => by go_simp
  clear hgt
  cases b with
  | false =>
    go_wp2
    all_goals
      go_ret
      exact ⟨rfl, HB.out⟩
  | true =>
    have hfs := HF.out rfl
    have HFS := Lib.hid hfs
    have HZ : Hid (SzD s) := Lib.hid ⟨by have := hfs.few.mem; omega, by have := hfs.few.data; omega, by have := hfs.few.spots; omega, by have := hfs.few.words; omega, by have := hfs.few.out; omega, fun y hy => by have := hfs.nms y hy; omega⟩
    clear hfs HF
    by_cases h60 : (60 : Int) < nm.size
    · go_wp2
      go_ret
      exact ⟨rfl, HB.out⟩
    · have hnm : nm.size ≤ 60 := by omega
      obtain ⟨c, hc⟩ : ∃ v, foundC s nm = v := ⟨_, rfl⟩
      obtain ⟨nw, hnw⟩ : ∃ v, foundN s nm = v := ⟨_, rfl⟩
      obtain ⟨is, his⟩ : ∃ v, foundI s nm = v := ⟨_, rfl⟩
      obtain ⟨s1, hs1⟩ : ∃ v, sayS s x nm = v := ⟨_, rfl⟩
      obtain ⟨e1, he1⟩ : ∃ v, sayE s x nm = v := ⟨_, rfl⟩
      have HLE : Hid (LeB s1 s 10) := Lib.hid (by
        rw [← hs1]
        unfold sayS
        split
        · exact .zero _ _
        · exact LeB.mono (k := 0) (LeB.same rfl rfl rfl rfl rfl) (Nat.zero_le _))
      have HC := Lib.hid hc
      have HNW := Lib.hid hnw
      have HI := Lib.hid his
      have HS1 := Lib.hid hs1
      have HE1 := Lib.hid he1
      clear hc hnw his hs1 he1
      go_wp2_with (first
      | (refine wp_loadS rfl 28 _ rfl w.heap.size rfl 28 (stL q s) _ HG.out Tryz.underlying28 rfl 15 infoSt rfl ?_)
      | (refine wp_loadS rfl 30 _ rfl (w.heap.size + 1) rfl 30 (suL x) _ HX.out Tryz.underlying30 rfl 5 infoSx rfl ?_))
      refine (Found_any q s nm c nw is w2 HC.out HNW.out HI.out (HP.out.below HB.out) (by have := HZ.out.words; omega) HZ.out.nms (by omega) (HT.out.below HB.out)).mono ?_
      rintro e v1 ⟨rfl, hb⟩
      have HB := Lib.hid (below_two HB.out hb)
      have HG := Lib.hid (HG.out.below hb)
      have HX := Lib.hid (HX.out.below hb)
      clear hb
      go_wp2_with (first
      | (refine wp_loadS rfl 28 _ rfl w.heap.size rfl 28 (stL q s) _ HG.out Tryz.underlying28 rfl 15 infoSt rfl ?_)
      | (refine wp_loadS rfl 30 _ rfl (w.heap.size + 1) rfl 30 (suL x) _ HX.out Tryz.underlying30 rfl 5 infoSx rfl ?_))
      refine (RFound_any q s nm c nw is v1 HC.out HNW.out HI.out (HP.out.below HB.out) (by have := HZ.out.words; omega) HZ.out.nms (by omega)).mono ?_
      rintro e v2 ⟨rfl, hb⟩
      have HB := Lib.hid (below_two HB.out hb)
      have HG := Lib.hid (HG.out.below hb)
      have HX := Lib.hid (HX.out.below hb)
      clear hb
      have HBL := Lib.hid (below_lit v2 (.cells #[.int .i64 0, .bool false, .bool false] 40))
      have HBN : Hid (Bx (v2.alloc (.cells #[.int .i64 0, .bool false, .bool false] 40)) v2.heap.size 40 [.int .i64 0, .bool false, .bool false]) := Lib.hid (Bx.new v2 _ _ _ _ rfl rfl)
      go_wp2_with (refine wp_storeS rfl 40 _ _ rfl v2.heap.size [.int .i64 c, .bool nw, .bool is] rfl rfl 40 _ HBN.out 3 infoWh rfl rfl rfl ?_)
      intro w3 hg5 hw5
      have HN : Hid (Below v2.heap.size v2 w3) := Lib.hid (below_grown HBL.out HBL.out.size hw5 (Nat.le_refl _))
      obtain ⟨h, hh⟩ : ∃ g, v2.heap.size = g := ⟨_, rfl⟩
      have HW : Hid (Bx w3 h 40 [.int .i64 c, .bool nw, .bool is]) := Lib.hid (by rw [← hh]; exact hg5)
      rw [hh]
      have HG := Lib.hid (HG.out.below HN.out)
      have HX := Lib.hid (HX.out.below HN.out)
      have HB := Lib.hid (below_two HB.out HN.out)
      clear hg5 hw5 hh HBL HBN HN
      go_wp2_with (first
      | (refine wp_loadS rfl 28 _ rfl w.heap.size rfl 28 (stL q s) _ HG.out Tryz.underlying28 rfl 15 infoSt rfl ?_)
      | (refine wp_loadS rfl 30 _ rfl (w.heap.size + 1) rfl 30 (suL x) _ HX.out Tryz.underlying30 rfl 5 infoSx rfl ?_))
      refine (Say_any q s x nm s1 e1 w3 HS1.out HE1.out (HP.out.below HB.out) HZ.out.out (by omega)).mono ?_
      rintro e v4 ⟨q1, rfl, hr, hb⟩
      have HB := Lib.hid (below_two HB.out hb)
      have HG := Lib.hid (HG.out.below hb)
      have HX := Lib.hid (HX.out.below hb)
      have HW := Lib.hid (HW.out.below hb)
      have HR1 := Lib.hid hr.rd
      clear hr hb
      have HBL := Lib.hid (below_lit v4 (.cells (stL nilA zeroP).toArray 28))
      have HBN : Hid (Bx (v4.alloc (.cells (stL nilA zeroP).toArray 28)) v4.heap.size 28 (stL nilA zeroP)) := Lib.hid (Bx.new v4 _ _ _ _ rfl rfl)
      go_wp2_with (refine wp_storeS rfl 28 _ _ rfl v4.heap.size (stL q1 s1) rfl rfl 28 (stL nilA zeroP) HBN.out 15 infoSt rfl rfl (stL_one _ _) ?_)
      intro wv4 hg5 hw5
      have HNv4 : Hid (Below v4.heap.size v4 wv4) := Lib.hid (below_grown HBL.out HBL.out.size hw5 (Nat.le_refl _))
      obtain ⟨g1, hg⟩ : ∃ g, v4.heap.size = g := ⟨_, rfl⟩
      have Hg1 : Hid (Bx wv4 g1 28 (stL q1 s1)) := Lib.hid (by rw [← hg]; exact hg5)
      rw [hg]
      have HG := Lib.hid (HG.out.below HNv4.out)
      have HX := Lib.hid (HX.out.below HNv4.out)
      have HR1 := Lib.hid (HR1.out.below HNv4.out)
      have HW := Lib.hid (HW.out.below HNv4.out)
      have HB := Lib.hid (below_two HB.out HNv4.out)
      clear hg5 hw5 hg HBL HBN HNv4
      go_wp2_with (first
      | (refine wp_loadS rfl 28 _ rfl w.heap.size rfl 28 (stL q s) _ HG.out Tryz.underlying28 rfl 15 infoSt rfl ?_)
      | (refine wp_loadS rfl 30 _ rfl (w.heap.size + 1) rfl 30 (suL x) _ HX.out Tryz.underlying30 rfl 5 infoSx rfl ?_))
      refine (RSay_any q s x nm s1 e1 wv4 HS1.out HE1.out (HP.out.below HB.out) HZ.out.out (by omega)).mono ?_
      rintro e v5 ⟨q2, rfl, hr, hb⟩
      have HB := Lib.hid (below_two HB.out hb)
      have HR1 := Lib.hid (HR1.out.below hb)
      have HW := Lib.hid (HW.out.below hb)
      have Hg1 := Lib.hid (Hg1.out.below hb)
      have HR2 := Lib.hid hr.rd
      clear hr hb
      have HBL := Lib.hid (below_lit v5 (.cells (stL nilA zeroP).toArray 28))
      have HBN : Hid (Bx (v5.alloc (.cells (stL nilA zeroP).toArray 28)) v5.heap.size 28 (stL nilA zeroP)) := Lib.hid (Bx.new v5 _ _ _ _ rfl rfl)
      go_wp2_with (refine wp_storeS rfl 28 _ _ rfl v5.heap.size (stL q2 s1) rfl rfl 28 (stL nilA zeroP) HBN.out 15 infoSt rfl rfl (stL_one _ _) ?_)
      intro wv5 hg5 hw5
      have HNv5 : Hid (Below v5.heap.size v5 wv5) := Lib.hid (below_grown HBL.out HBL.out.size hw5 (Nat.le_refl _))
      obtain ⟨g2, hg⟩ : ∃ g, v5.heap.size = g := ⟨_, rfl⟩
      have Hg2 : Hid (Bx wv5 g2 28 (stL q2 s1)) := Lib.hid (by rw [← hg]; exact hg5)
      rw [hg]
      have HR1 := Lib.hid (HR1.out.below HNv5.out)
      have HR2 := Lib.hid (HR2.out.below HNv5.out)
      have Hg1 := Lib.hid (Hg1.out.below HNv5.out)
      have HW := Lib.hid (HW.out.below HNv5.out)
      have HB := Lib.hid (below_two HB.out HNv5.out)
      clear hg5 hw5 hg HBL HBN HNv5
      have i0 : wv5.cell? ⟨h, 0, none⟩ = some (.int .i64 c) := HW.out.cell 0
      have i1 : wv5.cell? ⟨h, 1, none⟩ = some (.bool nw) := HW.out.cell 1
      have i2 : wv5.cell? ⟨h, 2, none⟩ = some (.bool is) := HW.out.cell 2
      go_wp2_with (first
        | (refine wp_take rfl ?_; refine wp_loadS rfl 28 _ rfl g1 rfl 28 (stL q1 s1) _ Hg1.out Tryz.underlying28 rfl 15 infoSt rfl ?_)
        | (refine wp_take rfl ?_; refine wp_loadS rfl 28 _ rfl g2 rfl 28 (stL q2 s1) _ Hg2.out Tryz.underlying28 rfl 15 infoSt rfl ?_))
      refine (Same_any q1 q2 s1 wv5 HR1.out HR2.out (by have := HLE.out.data; have := HFS.out.few.data; omega) (by have := HLE.out.ret; have := HFS.out.few.ret; omega) (by have := HLE.out.ctl; have := HFS.out.few.ctl; omega) (by have := HLE.out.words; have := HFS.out.few.words; omega) (by have := HLE.out.spots; have := HFS.out.few.spots; omega)).mono ?_
      rintro e u3 ⟨rfl, hb⟩
      have HB := Lib.hid (below_two HB.out hb)
      clear hb
      go_wp2
      go_ret
      exact ⟨rfl, HB.out⟩
end Go.Proofs.YtappfhjknihboaaGreatDoor
