
/- The reference's reads. -/
import Derived.Test.YtappfhjknihboaaGreatDoorRMakesD
namespace Go.Proofs.YtappfhjknihboaaGreatDoor
open Go.RowKit

set_option maxRecDepth 100000 in
set_option maxHeartbeats 4000000 in
theorem RReads_118 (q : Ad) (s : Ps) (x : Sx) (s' : Ps) (e' : Int) (w : World) (hr : fin (tickD x (s, 0)) = (s', e')) (hp : RdP w q s) (hsz : x.src.size ≤ 200) (hz : SzD s) (h0 : -9223372036854775808 ≤ s.here) (h1 : s.here ≤ 9223372036854775807) :
    Calls Tryz.prog 27 #[stV q s, suV x, .int .i64 118] w fun e w' => ∃ q', e = .returned (.tuple #[stV q' s', .int .i64 e', .bool true]) ∧ Res w.heap.size q s w' q' s' ∧ Below w.heap.size w w' := by
  have HR := Lib.hid hr
  have HZ := Lib.hid hz
  have HH := Lib.hid (And.intro h0 h1)
  clear hr hz h0 h1
  have hB0 := below_two (below_two (below_lit w (.cells (stL q s).toArray 28)) (below_lit _ (.cells (suL x).toArray 30))) (below_lit _ (.cells (stL nilA zeroP).toArray 28))
  have hS : Bx (((w.alloc (.cells (stL q s).toArray 28)).alloc (.cells (suL x).toArray 30)).alloc (.cells (stL nilA zeroP).toArray 28)) w.heap.size 28 (stL q s) := ((Bx.new w _ _ _ _ rfl rfl).alloc _).alloc _
  have hX : Bx (((w.alloc (.cells (stL q s).toArray 28)).alloc (.cells (suL x).toArray 30)).alloc (.cells (stL nilA zeroP).toArray 28)) (w.heap.size + 1) 30 (suL x) := (Bx.new _ _ _ _ _ (by simp) rfl).alloc _
  have hR : Bx (((w.alloc (.cells (stL q s).toArray 28)).alloc (.cells (suL x).toArray 30)).alloc (.cells (stL nilA zeroP).toArray 28)) (w.heap.size + 2) 28 (stL nilA zeroP) := Bx.new _ _ _ _ _ (by simp) rfl
  obtain ⟨W, hW⟩ : ∃ W, (((w.alloc (.cells #[.slice q.m s.mem.length q.mc, .slice q.d s.data.length q.dc, .slice q.r s.ret.length q.rc, .slice q.c s.ctl.length q.cc, .slice q.w s.words.length q.wc, .slice q.s s.spots.length q.sc, .slice q.o s.out.length q.oc, .int .i64 s.ip, .int .i64 s.here, .int .i64 s.pos, .int .i64 s.tok, .int .i64 s.inp, .int .i64 s.err, .bool s.comp, .bool s.halt] 28)).alloc (.cells #[.string x.src, .slice x.iA x.iN x.iC, .int .i64 x.size, .int .i64 x.depth, .int .i64 x.room] 30)).alloc (.cells #[.slice none 0 0, .slice none 0 0, .slice none 0 0, .slice none 0 0, .slice none 0 0, .slice none 0 0, .slice none 0 0, .int .i64 0, .int .i64 0, .int .i64 0, .int .i64 0, .int .i64 0, .int .i64 0, .bool false, .bool false] 28)) = W := ⟨_, rfl⟩
  have HB0 : Hid (Below w.heap.size w W) := Lib.hid (by rw [← hW]; exact hB0)
  have HA0 : Hid (Bx W w.heap.size 28 (stL q s)) := Lib.hid (by rw [← hW]; exact hS)
  have HX0 : Hid (Bx W (w.heap.size + 1) 30 (suL x)) := Lib.hid (by rw [← hW]; exact hX)
  have HR0 : Hid (Bx W (w.heap.size + 2) 28 (stL nilA zeroP)) := Lib.hid (by rw [← hW]; exact hR)
  have HP : Hid (RdP w q s) := Lib.hid hp
  have HWW := Lib.hid hW
  clear hp hB0 hS hX hR hW
  rw [stV_eq q s, suV_eq x]
  go_enter Tryz.func27, Tryz.ntmps27
  go_upto_region 1 with fail
  rw [HWW.out]
  have hW2 : w.heap.size + 2 < W.heap.size := HR0.out.lt
  go_wp2_with (first
    | (refine wp_loadS rfl 28 _ rfl w.heap.size rfl 28 _ _ HA0.out Tryz.underlying28 rfl 15 infoSt rfl ?_)
    | (refine wp_loadS rfl 30 _ rfl (w.heap.size + 1) rfl 30 _ _ HX0.out Tryz.underlying30 rfl 5 infoSx rfl ?_))
  refine (RTicks_go 118 q s x s' e' W (by rw [if_pos rfl]; exact HR.out) (HP.out.below HB0.out) hsz HZ.out).mono ?_
  rintro r w3 ⟨q3, rfl, hres, hb⟩
  have HRES : Hid (Res W.heap.size q s w3 q3 s') := Lib.hid hres
  have HB3 := Lib.hid (below_two HB0.out hb)
  have HR3 := Lib.hid (HR0.out.below hb)
  clear hres hb
  have hw3 : w.heap.size + 2 < w3.heap.size := HR3.out.lt
  have HBL := Lib.hid (below_lit w3 (.cells (stL nilA zeroP).toArray 28))
  have HBX : Hid (Bx (w3.alloc (.cells (stL nilA zeroP).toArray 28)) w3.heap.size 28 (stL nilA zeroP)) := Lib.hid (Bx.new w3 _ _ _ _ rfl rfl)
  go_wp2_with (refine wp_storeS rfl 28 _ _ rfl w3.heap.size (stL q3 s') rfl rfl 28 (stL nilA zeroP) HBX.out 15 infoSt rfl rfl (stL_one _ _) ?_)
  intro w5 hg5 hw5
  obtain ⟨g, hg⟩ : ∃ g, w3.heap.size = g := ⟨_, rfl⟩
  have HG5 : Hid (Bx w5 g 28 (stL q3 s')) := Lib.hid (by rw [← hg]; exact hg5)
  have HB5 := Lib.hid (below_grown (below_two HB3.out HBL.out) (below_two HB3.out HBL.out).size hw5 (by omega))
  have HR5 := Lib.hid ((HR3.out.below HBL.out).grown hw5 (by omega))
  have HP5 : Hid (RdP w5 q3 s') := Lib.hid ((HRES.out.rd.below HBL.out).grown HRES.out.rd.lies hw5 (by omega))
  have hw35 : w3.heap.size ≤ w5.heap.size := Nat.le_trans HBL.out.size hw5.size
  rw [hg]
  rw [hg] at hw3
  clear hg5 hw5 hg HBX HBL
  go_wp2_with (first
    | (refine wp_loadS rfl 28 _ rfl g rfl 28 _ _ HG5.out Tryz.underlying28 rfl 15 infoSt rfl ?_)
    | (refine wp_storeS rfl 28 _ _ rfl (w.heap.size + 2) (stL q3 s') rfl rfl 28 _ HR5.out 15 infoSt rfl rfl (stL_one _ _) ?_))
  intro w6 hg6 hw6
  have HG := Lib.hid hg6
  have HB6 := Lib.hid (below_grown HB5.out HB5.out.size hw6 (by omega))
  have HP6 := Lib.hid (HP5.out.grown (HRES.out.lies _ HP.out.lies) hw6 (by omega))
  have HL6 : Hid (∀ S : Nat → Prop, Lies q s S → Lies q3 s' (fun b => S b ∨ w.heap.size ≤ b)) := Lib.hid (fun S hS => (HRES.out.lies S hS).mono (fun b hb => hb.imp id (fun h => by omega)))
  clear hg6 hw6
  go_wp2
  refine bodyPost_ret (results_S3 rfl _ _ (w.heap.size + 2) 28 (stL q3 s') _ rfl HG.out Tryz.underlying28 rfl 15 infoSt rfl _ _ rfl rfl) rfl ?_
  exact ⟨q3, rfl, ⟨HP6.out, HL6.out⟩, HB6.out⟩
set_option maxRecDepth 100000 in
set_option maxHeartbeats 4000000 in
theorem RReads_119 (q : Ad) (s : Ps) (x : Sx) (s' : Ps) (e' : Int) (w : World) (hr : fin (btickD x (s, 0)) = (s', e')) (hp : RdP w q s) (hsz : x.src.size ≤ 200) (hz : SzD s) (h0 : -9223372036854775808 ≤ s.here) (h1 : s.here ≤ 9223372036854775807) :
    Calls Tryz.prog 27 #[stV q s, suV x, .int .i64 119] w fun e w' => ∃ q', e = .returned (.tuple #[stV q' s', .int .i64 e', .bool true]) ∧ Res w.heap.size q s w' q' s' ∧ Below w.heap.size w w' := by
  have HR := Lib.hid hr
  have HZ := Lib.hid hz
  have HH := Lib.hid (And.intro h0 h1)
  clear hr hz h0 h1
  have hB0 := below_two (below_two (below_lit w (.cells (stL q s).toArray 28)) (below_lit _ (.cells (suL x).toArray 30))) (below_lit _ (.cells (stL nilA zeroP).toArray 28))
  have hS : Bx (((w.alloc (.cells (stL q s).toArray 28)).alloc (.cells (suL x).toArray 30)).alloc (.cells (stL nilA zeroP).toArray 28)) w.heap.size 28 (stL q s) := ((Bx.new w _ _ _ _ rfl rfl).alloc _).alloc _
  have hX : Bx (((w.alloc (.cells (stL q s).toArray 28)).alloc (.cells (suL x).toArray 30)).alloc (.cells (stL nilA zeroP).toArray 28)) (w.heap.size + 1) 30 (suL x) := (Bx.new _ _ _ _ _ (by simp) rfl).alloc _
  have hR : Bx (((w.alloc (.cells (stL q s).toArray 28)).alloc (.cells (suL x).toArray 30)).alloc (.cells (stL nilA zeroP).toArray 28)) (w.heap.size + 2) 28 (stL nilA zeroP) := Bx.new _ _ _ _ _ (by simp) rfl
  obtain ⟨W, hW⟩ : ∃ W, (((w.alloc (.cells #[.slice q.m s.mem.length q.mc, .slice q.d s.data.length q.dc, .slice q.r s.ret.length q.rc, .slice q.c s.ctl.length q.cc, .slice q.w s.words.length q.wc, .slice q.s s.spots.length q.sc, .slice q.o s.out.length q.oc, .int .i64 s.ip, .int .i64 s.here, .int .i64 s.pos, .int .i64 s.tok, .int .i64 s.inp, .int .i64 s.err, .bool s.comp, .bool s.halt] 28)).alloc (.cells #[.string x.src, .slice x.iA x.iN x.iC, .int .i64 x.size, .int .i64 x.depth, .int .i64 x.room] 30)).alloc (.cells #[.slice none 0 0, .slice none 0 0, .slice none 0 0, .slice none 0 0, .slice none 0 0, .slice none 0 0, .slice none 0 0, .int .i64 0, .int .i64 0, .int .i64 0, .int .i64 0, .int .i64 0, .int .i64 0, .bool false, .bool false] 28)) = W := ⟨_, rfl⟩
  have HB0 : Hid (Below w.heap.size w W) := Lib.hid (by rw [← hW]; exact hB0)
  have HA0 : Hid (Bx W w.heap.size 28 (stL q s)) := Lib.hid (by rw [← hW]; exact hS)
  have HX0 : Hid (Bx W (w.heap.size + 1) 30 (suL x)) := Lib.hid (by rw [← hW]; exact hX)
  have HR0 : Hid (Bx W (w.heap.size + 2) 28 (stL nilA zeroP)) := Lib.hid (by rw [← hW]; exact hR)
  have HP : Hid (RdP w q s) := Lib.hid hp
  have HWW := Lib.hid hW
  clear hp hB0 hS hX hR hW
  rw [stV_eq q s, suV_eq x]
  go_enter Tryz.func27, Tryz.ntmps27
  go_upto_region 1 with fail
  rw [HWW.out]
  have hW2 : w.heap.size + 2 < W.heap.size := HR0.out.lt
  go_wp2_with (first
    | (refine wp_loadS rfl 28 _ rfl w.heap.size rfl 28 _ _ HA0.out Tryz.underlying28 rfl 15 infoSt rfl ?_)
    | (refine wp_loadS rfl 30 _ rfl (w.heap.size + 1) rfl 30 _ _ HX0.out Tryz.underlying30 rfl 5 infoSx rfl ?_))
  refine (RTicks_go 119 q s x s' e' W (by rw [if_neg (by decide), if_pos rfl]; exact HR.out) (HP.out.below HB0.out) hsz HZ.out).mono ?_
  rintro r w3 ⟨q3, rfl, hres, hb⟩
  have HRES : Hid (Res W.heap.size q s w3 q3 s') := Lib.hid hres
  have HB3 := Lib.hid (below_two HB0.out hb)
  have HR3 := Lib.hid (HR0.out.below hb)
  clear hres hb
  have hw3 : w.heap.size + 2 < w3.heap.size := HR3.out.lt
  have HBL := Lib.hid (below_lit w3 (.cells (stL nilA zeroP).toArray 28))
  have HBX : Hid (Bx (w3.alloc (.cells (stL nilA zeroP).toArray 28)) w3.heap.size 28 (stL nilA zeroP)) := Lib.hid (Bx.new w3 _ _ _ _ rfl rfl)
  go_wp2_with (refine wp_storeS rfl 28 _ _ rfl w3.heap.size (stL q3 s') rfl rfl 28 (stL nilA zeroP) HBX.out 15 infoSt rfl rfl (stL_one _ _) ?_)
  intro w5 hg5 hw5
  obtain ⟨g, hg⟩ : ∃ g, w3.heap.size = g := ⟨_, rfl⟩
  have HG5 : Hid (Bx w5 g 28 (stL q3 s')) := Lib.hid (by rw [← hg]; exact hg5)
  have HB5 := Lib.hid (below_grown (below_two HB3.out HBL.out) (below_two HB3.out HBL.out).size hw5 (by omega))
  have HR5 := Lib.hid ((HR3.out.below HBL.out).grown hw5 (by omega))
  have HP5 : Hid (RdP w5 q3 s') := Lib.hid ((HRES.out.rd.below HBL.out).grown HRES.out.rd.lies hw5 (by omega))
  have hw35 : w3.heap.size ≤ w5.heap.size := Nat.le_trans HBL.out.size hw5.size
  rw [hg]
  rw [hg] at hw3
  clear hg5 hw5 hg HBX HBL
  go_wp2_with (first
    | (refine wp_loadS rfl 28 _ rfl g rfl 28 _ _ HG5.out Tryz.underlying28 rfl 15 infoSt rfl ?_)
    | (refine wp_storeS rfl 28 _ _ rfl (w.heap.size + 2) (stL q3 s') rfl rfl 28 _ HR5.out 15 infoSt rfl rfl (stL_one _ _) ?_))
  intro w6 hg6 hw6
  have HG := Lib.hid hg6
  have HB6 := Lib.hid (below_grown HB5.out HB5.out.size hw6 (by omega))
  have HP6 := Lib.hid (HP5.out.grown (HRES.out.lies _ HP.out.lies) hw6 (by omega))
  have HL6 : Hid (∀ S : Nat → Prop, Lies q s S → Lies q3 s' (fun b => S b ∨ w.heap.size ≤ b)) := Lib.hid (fun S hS => (HRES.out.lies S hS).mono (fun b hb => hb.imp id (fun h => by omega)))
  clear hg6 hw6
  go_wp2
  refine bodyPost_ret (results_S3 rfl _ _ (w.heap.size + 2) 28 (stL q3 s') _ rfl HG.out Tryz.underlying28 rfl 15 infoSt rfl _ _ rfl rfl) rfl ?_
  exact ⟨q3, rfl, ⟨HP6.out, HL6.out⟩, HB6.out⟩
set_option maxRecDepth 100000 in
set_option maxHeartbeats 4000000 in
theorem RReads_121 (q : Ad) (s : Ps) (x : Sx) (s' : Ps) (e' : Int) (w : World) (hr : fin (postD x (s, 0)) = (s', e')) (hp : RdP w q s) (hsz : x.src.size ≤ 200) (hz : SzD s) (h0 : -9223372036854775808 ≤ s.here) (h1 : s.here ≤ 9223372036854775807) :
    Calls Tryz.prog 27 #[stV q s, suV x, .int .i64 121] w fun e w' => ∃ q', e = .returned (.tuple #[stV q' s', .int .i64 e', .bool true]) ∧ Res w.heap.size q s w' q' s' ∧ Below w.heap.size w w' := by
  have HR := Lib.hid hr
  have HZ := Lib.hid hz
  have HH := Lib.hid (And.intro h0 h1)
  clear hr hz h0 h1
  have hB0 := below_two (below_two (below_lit w (.cells (stL q s).toArray 28)) (below_lit _ (.cells (suL x).toArray 30))) (below_lit _ (.cells (stL nilA zeroP).toArray 28))
  have hS : Bx (((w.alloc (.cells (stL q s).toArray 28)).alloc (.cells (suL x).toArray 30)).alloc (.cells (stL nilA zeroP).toArray 28)) w.heap.size 28 (stL q s) := ((Bx.new w _ _ _ _ rfl rfl).alloc _).alloc _
  have hX : Bx (((w.alloc (.cells (stL q s).toArray 28)).alloc (.cells (suL x).toArray 30)).alloc (.cells (stL nilA zeroP).toArray 28)) (w.heap.size + 1) 30 (suL x) := (Bx.new _ _ _ _ _ (by simp) rfl).alloc _
  have hR : Bx (((w.alloc (.cells (stL q s).toArray 28)).alloc (.cells (suL x).toArray 30)).alloc (.cells (stL nilA zeroP).toArray 28)) (w.heap.size + 2) 28 (stL nilA zeroP) := Bx.new _ _ _ _ _ (by simp) rfl
  obtain ⟨W, hW⟩ : ∃ W, (((w.alloc (.cells #[.slice q.m s.mem.length q.mc, .slice q.d s.data.length q.dc, .slice q.r s.ret.length q.rc, .slice q.c s.ctl.length q.cc, .slice q.w s.words.length q.wc, .slice q.s s.spots.length q.sc, .slice q.o s.out.length q.oc, .int .i64 s.ip, .int .i64 s.here, .int .i64 s.pos, .int .i64 s.tok, .int .i64 s.inp, .int .i64 s.err, .bool s.comp, .bool s.halt] 28)).alloc (.cells #[.string x.src, .slice x.iA x.iN x.iC, .int .i64 x.size, .int .i64 x.depth, .int .i64 x.room] 30)).alloc (.cells #[.slice none 0 0, .slice none 0 0, .slice none 0 0, .slice none 0 0, .slice none 0 0, .slice none 0 0, .slice none 0 0, .int .i64 0, .int .i64 0, .int .i64 0, .int .i64 0, .int .i64 0, .int .i64 0, .bool false, .bool false] 28)) = W := ⟨_, rfl⟩
  have HB0 : Hid (Below w.heap.size w W) := Lib.hid (by rw [← hW]; exact hB0)
  have HA0 : Hid (Bx W w.heap.size 28 (stL q s)) := Lib.hid (by rw [← hW]; exact hS)
  have HX0 : Hid (Bx W (w.heap.size + 1) 30 (suL x)) := Lib.hid (by rw [← hW]; exact hX)
  have HR0 : Hid (Bx W (w.heap.size + 2) 28 (stL nilA zeroP)) := Lib.hid (by rw [← hW]; exact hR)
  have HP : Hid (RdP w q s) := Lib.hid hp
  have HWW := Lib.hid hW
  clear hp hB0 hS hX hR hW
  rw [stV_eq q s, suV_eq x]
  go_enter Tryz.func27, Tryz.ntmps27
  go_upto_region 1 with fail
  rw [HWW.out]
  have hW2 : w.heap.size + 2 < W.heap.size := HR0.out.lt
  go_wp2_with (first
    | (refine wp_loadS rfl 28 _ rfl w.heap.size rfl 28 _ _ HA0.out Tryz.underlying28 rfl 15 infoSt rfl ?_)
    | (refine wp_loadS rfl 30 _ rfl (w.heap.size + 1) rfl 30 _ _ HX0.out Tryz.underlying30 rfl 5 infoSx rfl ?_))
  refine (RTicks_go 121 q s x s' e' W (by rw [if_neg (by decide), if_neg (by decide)]; exact HR.out) (HP.out.below HB0.out) hsz HZ.out).mono ?_
  rintro r w3 ⟨q3, rfl, hres, hb⟩
  have HRES : Hid (Res W.heap.size q s w3 q3 s') := Lib.hid hres
  have HB3 := Lib.hid (below_two HB0.out hb)
  have HR3 := Lib.hid (HR0.out.below hb)
  clear hres hb
  have hw3 : w.heap.size + 2 < w3.heap.size := HR3.out.lt
  have HBL := Lib.hid (below_lit w3 (.cells (stL nilA zeroP).toArray 28))
  have HBX : Hid (Bx (w3.alloc (.cells (stL nilA zeroP).toArray 28)) w3.heap.size 28 (stL nilA zeroP)) := Lib.hid (Bx.new w3 _ _ _ _ rfl rfl)
  go_wp2_with (refine wp_storeS rfl 28 _ _ rfl w3.heap.size (stL q3 s') rfl rfl 28 (stL nilA zeroP) HBX.out 15 infoSt rfl rfl (stL_one _ _) ?_)
  intro w5 hg5 hw5
  obtain ⟨g, hg⟩ : ∃ g, w3.heap.size = g := ⟨_, rfl⟩
  have HG5 : Hid (Bx w5 g 28 (stL q3 s')) := Lib.hid (by rw [← hg]; exact hg5)
  have HB5 := Lib.hid (below_grown (below_two HB3.out HBL.out) (below_two HB3.out HBL.out).size hw5 (by omega))
  have HR5 := Lib.hid ((HR3.out.below HBL.out).grown hw5 (by omega))
  have HP5 : Hid (RdP w5 q3 s') := Lib.hid ((HRES.out.rd.below HBL.out).grown HRES.out.rd.lies hw5 (by omega))
  have hw35 : w3.heap.size ≤ w5.heap.size := Nat.le_trans HBL.out.size hw5.size
  rw [hg]
  rw [hg] at hw3
  clear hg5 hw5 hg HBX HBL
  go_wp2_with (first
    | (refine wp_loadS rfl 28 _ rfl g rfl 28 _ _ HG5.out Tryz.underlying28 rfl 15 infoSt rfl ?_)
    | (refine wp_storeS rfl 28 _ _ rfl (w.heap.size + 2) (stL q3 s') rfl rfl 28 _ HR5.out 15 infoSt rfl rfl (stL_one _ _) ?_))
  intro w6 hg6 hw6
  have HG := Lib.hid hg6
  have HB6 := Lib.hid (below_grown HB5.out HB5.out.size hw6 (by omega))
  have HP6 := Lib.hid (HP5.out.grown (HRES.out.lies _ HP.out.lies) hw6 (by omega))
  have HL6 : Hid (∀ S : Nat → Prop, Lies q s S → Lies q3 s' (fun b => S b ∨ w.heap.size ≤ b)) := Lib.hid (fun S hS => (HRES.out.lies S hS).mono (fun b hb => hb.imp id (fun h => by omega)))
  clear hg6 hw6
  go_wp2
  refine bodyPost_ret (results_S3 rfl _ _ (w.heap.size + 2) 28 (stL q3 s') _ rfl HG.out Tryz.underlying28 rfl 15 infoSt rfl _ _ rfl rfl) rfl ?_
  exact ⟨q3, rfl, ⟨HP6.out, HL6.out⟩, HB6.out⟩
set_option maxRecDepth 100000 in
set_option maxHeartbeats 4000000 in
theorem RReads_125 (q : Ad) (s : Ps) (x : Sx) (s' : Ps) (e' : Int) (w : World) (hr : fin (charGD x (s, 0)) = (s', e')) (hp : RdP w q s) (hsz : x.src.size ≤ 200) (hz : SzD s) (h0 : -9223372036854775808 ≤ s.here) (h1 : s.here ≤ 9223372036854775807) :
    Calls Tryz.prog 27 #[stV q s, suV x, .int .i64 125] w fun e w' => ∃ q', e = .returned (.tuple #[stV q' s', .int .i64 e', .bool true]) ∧ Res w.heap.size q s w' q' s' ∧ Below w.heap.size w w' := by
  have HR := Lib.hid hr
  have HZ := Lib.hid hz
  have HH := Lib.hid (And.intro h0 h1)
  clear hr hz h0 h1
  have hB0 := below_two (below_two (below_lit w (.cells (stL q s).toArray 28)) (below_lit _ (.cells (suL x).toArray 30))) (below_lit _ (.cells (stL nilA zeroP).toArray 28))
  have hS : Bx (((w.alloc (.cells (stL q s).toArray 28)).alloc (.cells (suL x).toArray 30)).alloc (.cells (stL nilA zeroP).toArray 28)) w.heap.size 28 (stL q s) := ((Bx.new w _ _ _ _ rfl rfl).alloc _).alloc _
  have hX : Bx (((w.alloc (.cells (stL q s).toArray 28)).alloc (.cells (suL x).toArray 30)).alloc (.cells (stL nilA zeroP).toArray 28)) (w.heap.size + 1) 30 (suL x) := (Bx.new _ _ _ _ _ (by simp) rfl).alloc _
  have hR : Bx (((w.alloc (.cells (stL q s).toArray 28)).alloc (.cells (suL x).toArray 30)).alloc (.cells (stL nilA zeroP).toArray 28)) (w.heap.size + 2) 28 (stL nilA zeroP) := Bx.new _ _ _ _ _ (by simp) rfl
  obtain ⟨W, hW⟩ : ∃ W, (((w.alloc (.cells #[.slice q.m s.mem.length q.mc, .slice q.d s.data.length q.dc, .slice q.r s.ret.length q.rc, .slice q.c s.ctl.length q.cc, .slice q.w s.words.length q.wc, .slice q.s s.spots.length q.sc, .slice q.o s.out.length q.oc, .int .i64 s.ip, .int .i64 s.here, .int .i64 s.pos, .int .i64 s.tok, .int .i64 s.inp, .int .i64 s.err, .bool s.comp, .bool s.halt] 28)).alloc (.cells #[.string x.src, .slice x.iA x.iN x.iC, .int .i64 x.size, .int .i64 x.depth, .int .i64 x.room] 30)).alloc (.cells #[.slice none 0 0, .slice none 0 0, .slice none 0 0, .slice none 0 0, .slice none 0 0, .slice none 0 0, .slice none 0 0, .int .i64 0, .int .i64 0, .int .i64 0, .int .i64 0, .int .i64 0, .int .i64 0, .bool false, .bool false] 28)) = W := ⟨_, rfl⟩
  have HB0 : Hid (Below w.heap.size w W) := Lib.hid (by rw [← hW]; exact hB0)
  have HA0 : Hid (Bx W w.heap.size 28 (stL q s)) := Lib.hid (by rw [← hW]; exact hS)
  have HX0 : Hid (Bx W (w.heap.size + 1) 30 (suL x)) := Lib.hid (by rw [← hW]; exact hX)
  have HR0 : Hid (Bx W (w.heap.size + 2) 28 (stL nilA zeroP)) := Lib.hid (by rw [← hW]; exact hR)
  have HP : Hid (RdP w q s) := Lib.hid hp
  have HWW := Lib.hid hW
  clear hp hB0 hS hX hR hW
  rw [stV_eq q s, suV_eq x]
  go_enter Tryz.func27, Tryz.ntmps27
  go_upto_region 1 with fail
  rw [HWW.out]
  have hW2 : w.heap.size + 2 < W.heap.size := HR0.out.lt
  go_wp2_with (first
    | (refine wp_loadS rfl 28 _ rfl w.heap.size rfl 28 _ _ HA0.out Tryz.underlying28 rfl 15 infoSt rfl ?_)
    | (refine wp_loadS rfl 30 _ rfl (w.heap.size + 1) rfl 30 _ _ HX0.out Tryz.underlying30 rfl 5 infoSx rfl ?_))
  refine (RChars_go 125 q s x s' e' W (by rw [if_pos rfl]; exact HR.out) (HP.out.below HB0.out) hsz HZ.out).mono ?_
  rintro r w3 ⟨q3, rfl, hres, hb⟩
  have HRES : Hid (Res W.heap.size q s w3 q3 s') := Lib.hid hres
  have HB3 := Lib.hid (below_two HB0.out hb)
  have HR3 := Lib.hid (HR0.out.below hb)
  clear hres hb
  have hw3 : w.heap.size + 2 < w3.heap.size := HR3.out.lt
  have HBL := Lib.hid (below_lit w3 (.cells (stL nilA zeroP).toArray 28))
  have HBX : Hid (Bx (w3.alloc (.cells (stL nilA zeroP).toArray 28)) w3.heap.size 28 (stL nilA zeroP)) := Lib.hid (Bx.new w3 _ _ _ _ rfl rfl)
  go_wp2_with (refine wp_storeS rfl 28 _ _ rfl w3.heap.size (stL q3 s') rfl rfl 28 (stL nilA zeroP) HBX.out 15 infoSt rfl rfl (stL_one _ _) ?_)
  intro w5 hg5 hw5
  obtain ⟨g, hg⟩ : ∃ g, w3.heap.size = g := ⟨_, rfl⟩
  have HG5 : Hid (Bx w5 g 28 (stL q3 s')) := Lib.hid (by rw [← hg]; exact hg5)
  have HB5 := Lib.hid (below_grown (below_two HB3.out HBL.out) (below_two HB3.out HBL.out).size hw5 (by omega))
  have HR5 := Lib.hid ((HR3.out.below HBL.out).grown hw5 (by omega))
  have HP5 : Hid (RdP w5 q3 s') := Lib.hid ((HRES.out.rd.below HBL.out).grown HRES.out.rd.lies hw5 (by omega))
  have hw35 : w3.heap.size ≤ w5.heap.size := Nat.le_trans HBL.out.size hw5.size
  rw [hg]
  rw [hg] at hw3
  clear hg5 hw5 hg HBX HBL
  go_wp2_with (first
    | (refine wp_loadS rfl 28 _ rfl g rfl 28 _ _ HG5.out Tryz.underlying28 rfl 15 infoSt rfl ?_)
    | (refine wp_storeS rfl 28 _ _ rfl (w.heap.size + 2) (stL q3 s') rfl rfl 28 _ HR5.out 15 infoSt rfl rfl (stL_one _ _) ?_))
  intro w6 hg6 hw6
  have HG := Lib.hid hg6
  have HB6 := Lib.hid (below_grown HB5.out HB5.out.size hw6 (by omega))
  have HP6 := Lib.hid (HP5.out.grown (HRES.out.lies _ HP.out.lies) hw6 (by omega))
  have HL6 : Hid (∀ S : Nat → Prop, Lies q s S → Lies q3 s' (fun b => S b ∨ w.heap.size ≤ b)) := Lib.hid (fun S hS => (HRES.out.lies S hS).mono (fun b hb => hb.imp id (fun h => by omega)))
  clear hg6 hw6
  go_wp2
  refine bodyPost_ret (results_S3 rfl _ _ (w.heap.size + 2) 28 (stL q3 s') _ rfl HG.out Tryz.underlying28 rfl 15 infoSt rfl _ _ rfl rfl) rfl ?_
  exact ⟨q3, rfl, ⟨HP6.out, HL6.out⟩, HB6.out⟩
set_option maxRecDepth 100000 in
set_option maxHeartbeats 4000000 in
theorem RReads_126 (q : Ad) (s : Ps) (x : Sx) (s' : Ps) (e' : Int) (w : World) (hr : fin (bcharD x (s, 0)) = (s', e')) (hp : RdP w q s) (hsz : x.src.size ≤ 200) (hz : SzD s) (h0 : -9223372036854775808 ≤ s.here) (h1 : s.here ≤ 9223372036854775807) :
    Calls Tryz.prog 27 #[stV q s, suV x, .int .i64 126] w fun e w' => ∃ q', e = .returned (.tuple #[stV q' s', .int .i64 e', .bool true]) ∧ Res w.heap.size q s w' q' s' ∧ Below w.heap.size w w' := by
  have HR := Lib.hid hr
  have HZ := Lib.hid hz
  have HH := Lib.hid (And.intro h0 h1)
  clear hr hz h0 h1
  have hB0 := below_two (below_two (below_lit w (.cells (stL q s).toArray 28)) (below_lit _ (.cells (suL x).toArray 30))) (below_lit _ (.cells (stL nilA zeroP).toArray 28))
  have hS : Bx (((w.alloc (.cells (stL q s).toArray 28)).alloc (.cells (suL x).toArray 30)).alloc (.cells (stL nilA zeroP).toArray 28)) w.heap.size 28 (stL q s) := ((Bx.new w _ _ _ _ rfl rfl).alloc _).alloc _
  have hX : Bx (((w.alloc (.cells (stL q s).toArray 28)).alloc (.cells (suL x).toArray 30)).alloc (.cells (stL nilA zeroP).toArray 28)) (w.heap.size + 1) 30 (suL x) := (Bx.new _ _ _ _ _ (by simp) rfl).alloc _
  have hR : Bx (((w.alloc (.cells (stL q s).toArray 28)).alloc (.cells (suL x).toArray 30)).alloc (.cells (stL nilA zeroP).toArray 28)) (w.heap.size + 2) 28 (stL nilA zeroP) := Bx.new _ _ _ _ _ (by simp) rfl
  obtain ⟨W, hW⟩ : ∃ W, (((w.alloc (.cells #[.slice q.m s.mem.length q.mc, .slice q.d s.data.length q.dc, .slice q.r s.ret.length q.rc, .slice q.c s.ctl.length q.cc, .slice q.w s.words.length q.wc, .slice q.s s.spots.length q.sc, .slice q.o s.out.length q.oc, .int .i64 s.ip, .int .i64 s.here, .int .i64 s.pos, .int .i64 s.tok, .int .i64 s.inp, .int .i64 s.err, .bool s.comp, .bool s.halt] 28)).alloc (.cells #[.string x.src, .slice x.iA x.iN x.iC, .int .i64 x.size, .int .i64 x.depth, .int .i64 x.room] 30)).alloc (.cells #[.slice none 0 0, .slice none 0 0, .slice none 0 0, .slice none 0 0, .slice none 0 0, .slice none 0 0, .slice none 0 0, .int .i64 0, .int .i64 0, .int .i64 0, .int .i64 0, .int .i64 0, .int .i64 0, .bool false, .bool false] 28)) = W := ⟨_, rfl⟩
  have HB0 : Hid (Below w.heap.size w W) := Lib.hid (by rw [← hW]; exact hB0)
  have HA0 : Hid (Bx W w.heap.size 28 (stL q s)) := Lib.hid (by rw [← hW]; exact hS)
  have HX0 : Hid (Bx W (w.heap.size + 1) 30 (suL x)) := Lib.hid (by rw [← hW]; exact hX)
  have HR0 : Hid (Bx W (w.heap.size + 2) 28 (stL nilA zeroP)) := Lib.hid (by rw [← hW]; exact hR)
  have HP : Hid (RdP w q s) := Lib.hid hp
  have HWW := Lib.hid hW
  clear hp hB0 hS hX hR hW
  rw [stV_eq q s, suV_eq x]
  go_enter Tryz.func27, Tryz.ntmps27
  go_upto_region 1 with fail
  rw [HWW.out]
  have hW2 : w.heap.size + 2 < W.heap.size := HR0.out.lt
  go_wp2_with (first
    | (refine wp_loadS rfl 28 _ rfl w.heap.size rfl 28 _ _ HA0.out Tryz.underlying28 rfl 15 infoSt rfl ?_)
    | (refine wp_loadS rfl 30 _ rfl (w.heap.size + 1) rfl 30 _ _ HX0.out Tryz.underlying30 rfl 5 infoSx rfl ?_))
  refine (RChars_go 126 q s x s' e' W (by rw [if_neg (by decide)]; exact HR.out) (HP.out.below HB0.out) hsz HZ.out).mono ?_
  rintro r w3 ⟨q3, rfl, hres, hb⟩
  have HRES : Hid (Res W.heap.size q s w3 q3 s') := Lib.hid hres
  have HB3 := Lib.hid (below_two HB0.out hb)
  have HR3 := Lib.hid (HR0.out.below hb)
  clear hres hb
  have hw3 : w.heap.size + 2 < w3.heap.size := HR3.out.lt
  have HBL := Lib.hid (below_lit w3 (.cells (stL nilA zeroP).toArray 28))
  have HBX : Hid (Bx (w3.alloc (.cells (stL nilA zeroP).toArray 28)) w3.heap.size 28 (stL nilA zeroP)) := Lib.hid (Bx.new w3 _ _ _ _ rfl rfl)
  go_wp2_with (refine wp_storeS rfl 28 _ _ rfl w3.heap.size (stL q3 s') rfl rfl 28 (stL nilA zeroP) HBX.out 15 infoSt rfl rfl (stL_one _ _) ?_)
  intro w5 hg5 hw5
  obtain ⟨g, hg⟩ : ∃ g, w3.heap.size = g := ⟨_, rfl⟩
  have HG5 : Hid (Bx w5 g 28 (stL q3 s')) := Lib.hid (by rw [← hg]; exact hg5)
  have HB5 := Lib.hid (below_grown (below_two HB3.out HBL.out) (below_two HB3.out HBL.out).size hw5 (by omega))
  have HR5 := Lib.hid ((HR3.out.below HBL.out).grown hw5 (by omega))
  have HP5 : Hid (RdP w5 q3 s') := Lib.hid ((HRES.out.rd.below HBL.out).grown HRES.out.rd.lies hw5 (by omega))
  have hw35 : w3.heap.size ≤ w5.heap.size := Nat.le_trans HBL.out.size hw5.size
  rw [hg]
  rw [hg] at hw3
  clear hg5 hw5 hg HBX HBL
  go_wp2_with (first
    | (refine wp_loadS rfl 28 _ rfl g rfl 28 _ _ HG5.out Tryz.underlying28 rfl 15 infoSt rfl ?_)
    | (refine wp_storeS rfl 28 _ _ rfl (w.heap.size + 2) (stL q3 s') rfl rfl 28 _ HR5.out 15 infoSt rfl rfl (stL_one _ _) ?_))
  intro w6 hg6 hw6
  have HG := Lib.hid hg6
  have HB6 := Lib.hid (below_grown HB5.out HB5.out.size hw6 (by omega))
  have HP6 := Lib.hid (HP5.out.grown (HRES.out.lies _ HP.out.lies) hw6 (by omega))
  have HL6 : Hid (∀ S : Nat → Prop, Lies q s S → Lies q3 s' (fun b => S b ∨ w.heap.size ≤ b)) := Lib.hid (fun S hS => (HRES.out.lies S hS).mono (fun b hb => hb.imp id (fun h => by omega)))
  clear hg6 hw6
  go_wp2
  refine bodyPost_ret (results_S3 rfl _ _ (w.heap.size + 2) 28 (stL q3 s') _ rfl HG.out Tryz.underlying28 rfl 15 infoSt rfl _ _ rfl rfl) rfl ?_
  exact ⟨q3, rfl, ⟨HP6.out, HL6.out⟩, HB6.out⟩
set_option maxRecDepth 100000 in
set_option maxHeartbeats 4000000 in
theorem RReads_129 (q : Ad) (s : Ps) (x : Sx) (s' : Ps) (e' : Int) (w : World) (hr : fin (quoteD x (s, 0)) = (s', e')) (hp : RdP w q s) (hsz : x.src.size ≤ 200) (hz : SzD s) (h0 : -9223372036854775808 ≤ s.here) (h1 : s.here ≤ 9223372036854775807) :
    Calls Tryz.prog 27 #[stV q s, suV x, .int .i64 129] w fun e w' => ∃ q', e = .returned (.tuple #[stV q' s', .int .i64 e', .bool true]) ∧ Res w.heap.size q s w' q' s' ∧ Below w.heap.size w w' := by
  have HR := Lib.hid hr
  have HZ := Lib.hid hz
  have HH := Lib.hid (And.intro h0 h1)
  clear hr hz h0 h1
  have hB0 := below_two (below_two (below_lit w (.cells (stL q s).toArray 28)) (below_lit _ (.cells (suL x).toArray 30))) (below_lit _ (.cells (stL nilA zeroP).toArray 28))
  have hS : Bx (((w.alloc (.cells (stL q s).toArray 28)).alloc (.cells (suL x).toArray 30)).alloc (.cells (stL nilA zeroP).toArray 28)) w.heap.size 28 (stL q s) := ((Bx.new w _ _ _ _ rfl rfl).alloc _).alloc _
  have hX : Bx (((w.alloc (.cells (stL q s).toArray 28)).alloc (.cells (suL x).toArray 30)).alloc (.cells (stL nilA zeroP).toArray 28)) (w.heap.size + 1) 30 (suL x) := (Bx.new _ _ _ _ _ (by simp) rfl).alloc _
  have hR : Bx (((w.alloc (.cells (stL q s).toArray 28)).alloc (.cells (suL x).toArray 30)).alloc (.cells (stL nilA zeroP).toArray 28)) (w.heap.size + 2) 28 (stL nilA zeroP) := Bx.new _ _ _ _ _ (by simp) rfl
  obtain ⟨W, hW⟩ : ∃ W, (((w.alloc (.cells #[.slice q.m s.mem.length q.mc, .slice q.d s.data.length q.dc, .slice q.r s.ret.length q.rc, .slice q.c s.ctl.length q.cc, .slice q.w s.words.length q.wc, .slice q.s s.spots.length q.sc, .slice q.o s.out.length q.oc, .int .i64 s.ip, .int .i64 s.here, .int .i64 s.pos, .int .i64 s.tok, .int .i64 s.inp, .int .i64 s.err, .bool s.comp, .bool s.halt] 28)).alloc (.cells #[.string x.src, .slice x.iA x.iN x.iC, .int .i64 x.size, .int .i64 x.depth, .int .i64 x.room] 30)).alloc (.cells #[.slice none 0 0, .slice none 0 0, .slice none 0 0, .slice none 0 0, .slice none 0 0, .slice none 0 0, .slice none 0 0, .int .i64 0, .int .i64 0, .int .i64 0, .int .i64 0, .int .i64 0, .int .i64 0, .bool false, .bool false] 28)) = W := ⟨_, rfl⟩
  have HB0 : Hid (Below w.heap.size w W) := Lib.hid (by rw [← hW]; exact hB0)
  have HA0 : Hid (Bx W w.heap.size 28 (stL q s)) := Lib.hid (by rw [← hW]; exact hS)
  have HX0 : Hid (Bx W (w.heap.size + 1) 30 (suL x)) := Lib.hid (by rw [← hW]; exact hX)
  have HR0 : Hid (Bx W (w.heap.size + 2) 28 (stL nilA zeroP)) := Lib.hid (by rw [← hW]; exact hR)
  have HP : Hid (RdP w q s) := Lib.hid hp
  have HWW := Lib.hid hW
  clear hp hB0 hS hX hR hW
  rw [stV_eq q s, suV_eq x]
  go_enter Tryz.func27, Tryz.ntmps27
  go_upto_region 1 with fail
  rw [HWW.out]
  have hW2 : w.heap.size + 2 < W.heap.size := HR0.out.lt
  go_wp2_with (first
    | (refine wp_loadS rfl 28 _ rfl w.heap.size rfl 28 _ _ HA0.out Tryz.underlying28 rfl 15 infoSt rfl ?_)
    | (refine wp_loadS rfl 30 _ rfl (w.heap.size + 1) rfl 30 _ _ HX0.out Tryz.underlying30 rfl 5 infoSx rfl ?_))
  refine (RQuote_go q s x s' e' W HR.out (HP.out.below HB0.out) hsz (by have := HZ.out.mem; omega) (by have := HZ.out.spots; omega) HZ.out.out).mono ?_
  rintro r w3 ⟨q3, rfl, hres, hb⟩
  have HRES : Hid (Res W.heap.size q s w3 q3 s') := Lib.hid hres
  have HB3 := Lib.hid (below_two HB0.out hb)
  have HR3 := Lib.hid (HR0.out.below hb)
  clear hres hb
  have hw3 : w.heap.size + 2 < w3.heap.size := HR3.out.lt
  have HBL := Lib.hid (below_lit w3 (.cells (stL nilA zeroP).toArray 28))
  have HBX : Hid (Bx (w3.alloc (.cells (stL nilA zeroP).toArray 28)) w3.heap.size 28 (stL nilA zeroP)) := Lib.hid (Bx.new w3 _ _ _ _ rfl rfl)
  go_wp2_with (refine wp_storeS rfl 28 _ _ rfl w3.heap.size (stL q3 s') rfl rfl 28 (stL nilA zeroP) HBX.out 15 infoSt rfl rfl (stL_one _ _) ?_)
  intro w5 hg5 hw5
  obtain ⟨g, hg⟩ : ∃ g, w3.heap.size = g := ⟨_, rfl⟩
  have HG5 : Hid (Bx w5 g 28 (stL q3 s')) := Lib.hid (by rw [← hg]; exact hg5)
  have HB5 := Lib.hid (below_grown (below_two HB3.out HBL.out) (below_two HB3.out HBL.out).size hw5 (by omega))
  have HR5 := Lib.hid ((HR3.out.below HBL.out).grown hw5 (by omega))
  have HP5 : Hid (RdP w5 q3 s') := Lib.hid ((HRES.out.rd.below HBL.out).grown HRES.out.rd.lies hw5 (by omega))
  have hw35 : w3.heap.size ≤ w5.heap.size := Nat.le_trans HBL.out.size hw5.size
  rw [hg]
  rw [hg] at hw3
  clear hg5 hw5 hg HBX HBL
  go_wp2_with (first
    | (refine wp_loadS rfl 28 _ rfl g rfl 28 _ _ HG5.out Tryz.underlying28 rfl 15 infoSt rfl ?_)
    | (refine wp_storeS rfl 28 _ _ rfl (w.heap.size + 2) (stL q3 s') rfl rfl 28 _ HR5.out 15 infoSt rfl rfl (stL_one _ _) ?_))
  intro w6 hg6 hw6
  have HG := Lib.hid hg6
  have HB6 := Lib.hid (below_grown HB5.out HB5.out.size hw6 (by omega))
  have HP6 := Lib.hid (HP5.out.grown (HRES.out.lies _ HP.out.lies) hw6 (by omega))
  have HL6 : Hid (∀ S : Nat → Prop, Lies q s S → Lies q3 s' (fun b => S b ∨ w.heap.size ≤ b)) := Lib.hid (fun S hS => (HRES.out.lies S hS).mono (fun b hb => hb.imp id (fun h => by omega)))
  clear hg6 hw6
  go_wp2
  refine bodyPost_ret (results_S3 rfl _ _ (w.heap.size + 2) 28 (stL q3 s') _ rfl HG.out Tryz.underlying28 rfl 15 infoSt rfl _ _ rfl rfl) rfl ?_
  exact ⟨q3, rfl, ⟨HP6.out, HL6.out⟩, HB6.out⟩
set_option maxRecDepth 100000 in
set_option maxHeartbeats 4000000 in
theorem RReads_120 (q : Ad) (s : Ps) (x : Sx) (s' : Ps) (e' : Int) (w : World) (hr : fin (litD (s, 0)) = (s', e')) (hp : RdP w q s) (_hsz : x.src.size ≤ 200) (hz : SzD s) (h0 : -9223372036854775808 ≤ s.here) (h1 : s.here ≤ 9223372036854775807) :
    Calls Tryz.prog 27 #[stV q s, suV x, .int .i64 120] w fun e w' => ∃ q', e = .returned (.tuple #[stV q' s', .int .i64 e', .bool true]) ∧ Res w.heap.size q s w' q' s' ∧ Below w.heap.size w w' := by
  have HR := Lib.hid hr
  have HZ := Lib.hid hz
  have HH := Lib.hid (And.intro h0 h1)
  clear hr hz h0 h1
  have hB0 := below_two (below_two (below_lit w (.cells (stL q s).toArray 28)) (below_lit _ (.cells (suL x).toArray 30))) (below_lit _ (.cells (stL nilA zeroP).toArray 28))
  have hS : Bx (((w.alloc (.cells (stL q s).toArray 28)).alloc (.cells (suL x).toArray 30)).alloc (.cells (stL nilA zeroP).toArray 28)) w.heap.size 28 (stL q s) := ((Bx.new w _ _ _ _ rfl rfl).alloc _).alloc _
  have hX : Bx (((w.alloc (.cells (stL q s).toArray 28)).alloc (.cells (suL x).toArray 30)).alloc (.cells (stL nilA zeroP).toArray 28)) (w.heap.size + 1) 30 (suL x) := (Bx.new _ _ _ _ _ (by simp) rfl).alloc _
  have hR : Bx (((w.alloc (.cells (stL q s).toArray 28)).alloc (.cells (suL x).toArray 30)).alloc (.cells (stL nilA zeroP).toArray 28)) (w.heap.size + 2) 28 (stL nilA zeroP) := Bx.new _ _ _ _ _ (by simp) rfl
  obtain ⟨W, hW⟩ : ∃ W, (((w.alloc (.cells #[.slice q.m s.mem.length q.mc, .slice q.d s.data.length q.dc, .slice q.r s.ret.length q.rc, .slice q.c s.ctl.length q.cc, .slice q.w s.words.length q.wc, .slice q.s s.spots.length q.sc, .slice q.o s.out.length q.oc, .int .i64 s.ip, .int .i64 s.here, .int .i64 s.pos, .int .i64 s.tok, .int .i64 s.inp, .int .i64 s.err, .bool s.comp, .bool s.halt] 28)).alloc (.cells #[.string x.src, .slice x.iA x.iN x.iC, .int .i64 x.size, .int .i64 x.depth, .int .i64 x.room] 30)).alloc (.cells #[.slice none 0 0, .slice none 0 0, .slice none 0 0, .slice none 0 0, .slice none 0 0, .slice none 0 0, .slice none 0 0, .int .i64 0, .int .i64 0, .int .i64 0, .int .i64 0, .int .i64 0, .int .i64 0, .bool false, .bool false] 28)) = W := ⟨_, rfl⟩
  have HB0 : Hid (Below w.heap.size w W) := Lib.hid (by rw [← hW]; exact hB0)
  have HA0 : Hid (Bx W w.heap.size 28 (stL q s)) := Lib.hid (by rw [← hW]; exact hS)
  have HX0 : Hid (Bx W (w.heap.size + 1) 30 (suL x)) := Lib.hid (by rw [← hW]; exact hX)
  have HR0 : Hid (Bx W (w.heap.size + 2) 28 (stL nilA zeroP)) := Lib.hid (by rw [← hW]; exact hR)
  have HP : Hid (RdP w q s) := Lib.hid hp
  have HWW := Lib.hid hW
  clear hp hB0 hS hX hR hW
  rw [stV_eq q s, suV_eq x]
  go_enter Tryz.func27, Tryz.ntmps27
  go_upto_region 1 with fail
  rw [HWW.out]
  have hW2 : w.heap.size + 2 < W.heap.size := HR0.out.lt
  obtain ⟨n, hn⟩ : ∃ n, s.data.length = n := ⟨_, rfl⟩
  have c1 : W.cell? ⟨w.heap.size, 1, none⟩ = some (.slice q.d n q.dc) := by have h := HA0.out.cell 1; rw [← hn]; exact h
  have HN := Lib.hid hn
  by_cases hd0 : 0 < n
  · obtain ⟨p1, p2, p3⟩ := pop_one (l := s.data) (by omega)
    rw [hn] at p1 p2
    have HP1 := Lib.hid p1
    have HP2 := Lib.hid p2
    have HP3 := Lib.hid p3
    obtain ⟨vv, hvv⟩ : ∃ vv, s.data.getD (n - 1) 0 = vv := ⟨_, rfl⟩
    have hlt : (s.data.take (n - 1)).length = n - 1 := by rw [List.length_take]; omega
    have HLT := Lib.hid hlt
    obtain ⟨sA, hsA⟩ : ∃ a : Ps, { s with data := s.data.take (n - 1) } = a := ⟨_, rfl⟩
    have htk : takeD (s, 0) = (sA, 0) ∧ takeV (s, 0) = vv := by
      unfold takeD takeV
      rw [if_pos rfl, if_pos (by rw [hn]; exact hd0), if_pos ⟨rfl, by rw [hn]; exact hd0⟩]
      simp only
      rw [hn, hsA, hvv]
      exact ⟨rfl, rfl⟩
    have HTK := Lib.hid htk
    have HSA := Lib.hid hsA
    have HVV := Lib.hid hvv
    have HSF : Hid (sA.mem = s.mem ∧ sA.spots = s.spots ∧ sA.words = s.words ∧ sA.here = s.here) := Lib.hid (by rw [← hsA]; exact ⟨rfl, rfl, rfl, rfl⟩)
    clear hn p1 p2 p3 hlt htk hsA hvv
    go_wp2_with fail
    refine (rpop_is q.d q.dc n s.data _ _ 0 W HN.out HP1.out HP2.out HP3.out (HP.out.below HB0.out).data).mono ?_
    rintro r w1 ⟨A1, c1', A2, c2, ha, rfl, h1, h2, hb⟩
    obtain ⟨ad, hA2, e0⟩ := RdI.at_ h2 (j := 0) (by simp)
    have HA := Lib.hid ha
    have HR1 := Lib.hid h1
    have HB1 := Lib.hid (below_two HB0.out hb)
    have HA1 := Lib.hid (HA0.out.below hb)
    have HX1 := Lib.hid (HX0.out.below hb)
    have HRB := Lib.hid (HR0.out.below hb)
    have hw1 : W.heap.size ≤ w1.heap.size := hb.size
    have HE0 : Hid (w1.cell? ad = some (.int .i64 vv) ∧ A2 = some ad) := Lib.hid ⟨by rw [← HVV.out]; exact e0, hA2⟩
    rw [HLT.out]
    clear ha h1 h2 hb e0 hA2 c1
    go_wp2_with (refine wp_storeF rfl 23 _ _ rfl w.heap.size 1 _ rfl rfl rfl 28 _ HA1.out 15 rfl (by decide) info1c ?_)
    intro w3 hg3 hw3
    obtain ⟨qA, hqA⟩ : ∃ a : Ad, { q with d := A1, dc := c1' } = a := ⟨_, rfl⟩
    have HLI : Hid (∀ S, Lies q s S → Lies qA sA S) := Lib.hid (fun S hS => by rw [← hqA, ← HSA.out]; exact take_lies hS HA.out (fun _ => by rw [HN.out]; exact hd0))
    have HA3 : Hid (Bx w3 w.heap.size 28 (stL qA sA)) := Lib.hid (by
      have e : (stL q s).set 1 (.slice A1 (n - 1) c1') = stL qA sA := by
        rw [← hqA, ← HSA.out]
        unfold stL
        rw [show ({ s with data := s.data.take (n - 1) } : Ps).data.length = n - 1 from HLT.out]
        rfl
      rw [← e]
      exact hg3)
    have HPA : Hid (RdP w3 qA sA) := Lib.hid (by
      have hl := HLI.out _ HP.out.lies
      have h : RdP w1 qA sA := by
        rw [← hqA, ← HSA.out]
        exact (HP.out.below HB1.out).withData HR1.out
      exact h.grown hl hw3 (by omega))
    have HX3 := Lib.hid (HX1.out.grown hw3 (by omega))
    have HR3 := Lib.hid (HRB.out.grown hw3 (by omega))
    have HB3 := Lib.hid (below_grown HB1.out HB1.out.size hw3 (Nat.le_refl _))
    have hadb : ad.block < w.heap.size := by
      obtain ⟨a0, h1, h2⟩ := HA.out.2 ad HE0.out.2
      rw [h2]
      exact HP.out.lies.data (by rw [HN.out]; exact hd0) a0 h1
    have HE3 : Hid (w3.cell? ad = some (.int .i64 vv)) := Lib.hid (hw3.cell HE0.out.1 (fun e => by injection e with e; omega))
    have hw13 : w1.heap.size ≤ w3.heap.size := hw3.size
    obtain rfl := HE0.out.2
    clear hg3 hw3 hqA HE0 HR1 HA HA1 HX1 HRB
    have hr := HR.out
    unfold litD at hr
    rw [HTK.out.1, HTK.out.2, fin_emitD] at hr
    injection hr with ha hb
    have HE1 := Lib.hid ha
    have HE2 := Lib.hid hb
    clear ha hb HR
    go_upto_region 16 with fail
    refine wp_region_facts (W := w3) [fVal (stV qA sA), fVal (.slice (some ad) 1 c2), fVal (.pointer (some ad)), fVal (.int .i64 vv), fRow 2 .i64 [2, vv], fTupL qA sA w3.heap.size s' [.int .i64 e'], fTupL qA sA w3.heap.size s' [.int .i64 e'], fStL qA sA w3.heap.size s', fVal (.int .i64 e'), fBox 18 28 (stL nilA zeroP), fSetL qA sA w3.heap.size 18 28 s', fVal (.int .i64 e')] (fun | 2 => [1] | 3 => [2] | 4 => [3] | 5 => [0, 4] | 6 => [5] | 7 => [6] | 8 => [6] | 10 => [9, 7] | 11 => [8] | _ => []) (fun | 10 => 19 | i => 2 * i) _ rfl rfl (by kernel_rfl) (by kernel_rfl) ?_ ?_ ?_
    · exact (.cons (stable_val _ _) (.cons (stable_val _ _) (.cons (stable_val _ _) (.cons (stable_val _ _) (.cons (stable_row _ _ _ _ (by simp)) (.cons (stable_tupL _ _ _ _ _ _) (.cons (stable_tupL _ _ _ _ _ _) (.cons (stable_stL _ _ _ _ _) (.cons (stable_val _ _) (.cons (stable_box _ _ _ _) (.cons (stable_setL _ _ _ _ _ _ _) (.cons (stable_val _ _) AllStable.nil))))))))))))
    · refine ⟨?_, ?_, ?_, ?_, ?_, ?_, ?_, ?_, ?_, ?_, ?_, ?_, trivial⟩
      · intro a γ v hj hu hd hf
        exact rg_load 28 _ rfl w.heap.size (hf 3 (by decide)) 28 (stL qA sA) _ (HA3.out.below hj.below) Tryz.underlying28 rfl 15 infoSt rfl ⟨_, rfl, .quiet rfl⟩
      · intro a γ v hj hu hd hf
        exact rg_move _ rfl _ (hf 14 (by decide)) ⟨_, rfl, .quiet rfl⟩
      · intro a γ v hj hu hd hf
        obtain ⟨_, e, rfl⟩ := hd 1 (by simp)
        refine rg_run (.pointer (some ad)) ?_ ⟨_, rfl, .quiet rfl⟩
        unfold execOp
        simp only [e 64 rfl, show a.eval (.const (.int .i64 0)) = .int .i64 0 from rfl, Sem.run_bind, ixI_run ad 1 c2 v (by decide), Sem.run_pure, Result.andThen_ok]
      · intro a γ v hj hu hd hf
        obtain ⟨_, e, rfl⟩ := hd 2 (by simp)
        exact rg_loadv _ _ rfl _ _ (e 65 rfl) (ld_int _ _ _ ((hj.below.cell (World.block_lt_of_cell? _ _ HE3.out)).trans HE3.out)) ⟨_, rfl, .quiet rfl⟩
      · intro a γ v hj hu hd hf
        obtain ⟨_, e, rfl⟩ := hd 3 (by simp)
        refine rg_runw (.slice (some ⟨v.heap.size, 0, none⟩) 2 2) (v.alloc (.cells #[.int .i64 2, .int .i64 vv] 3 (0, 0))) ?_ ⟨_, rfl, .grow (below_lit _ _) ⟨v.heap.size, rfl, rd_two v 2 vv, fun i e => by have := (hj.lt i _ e).2; omega⟩⟩
        unfold execOp
        simp only [List.map_toArray, List.map_cons, List.map_nil, e 66 rfl, show a.eval (.const (.int .i64 2)) = .int .i64 2 from rfl, Sem.run_bind, b2_run, Sem.run_pure, Result.andThen_ok]
      · intro a γ v hj hu hd hf
        obtain ⟨_, e0, rfl⟩ := hd 0 (by simp)
        obtain ⟨_, er, m, rfl, hrow, _⟩ := hd 4 (by simp)
        have hsz2 := hj.below.size
        refine rg_call 82 _ _ rfl #[stV qA sA, .slice (some ⟨m, 0, none⟩) 2 2] (by simp [e0 63 rfl, er 67 rfl]) (by go_simp) _ (REmit_any qA sA (some ⟨m, 0, none⟩) 2 2 [2, vv] s' e' v rfl HE1.out HE2.out (HPA.out.below hj.below) hrow (by rw [HSF.out.1]; have := HZ.out.mem; omega) (by rw [HSF.out.2.1]; have := HZ.out.spots; omega)) ?_
        rintro r u ⟨q2, rfl, hres, hb⟩
        exact ⟨_, rfl, _, rfl, .grow hb ⟨q2, rfl, .of_res hj (hj.lies_old HPA.out) hres, fun S hS => (hres.lies S hS).mono (fun b hb => hb.imp id (fun h => by omega))⟩⟩
      · intro a γ v hj hu hd hf
        obtain ⟨_, e, q2, rfl, hs⟩ := hd 5 (by simp)
        exact rg_move _ rfl _ (e 68 rfl) ⟨_, rfl, .quiet ⟨q2, rfl, hs⟩⟩
      · intro a γ v hj hu hd hf
        obtain ⟨_, e, q2, rfl, hs⟩ := hd 6 (by simp)
        exact rg_extract _ _ rfl _ (e 62 rfl) _ rfl ⟨_, rfl, .quiet ⟨q2, rfl, hs⟩⟩
      · intro a γ v hj hu hd hf
        obtain ⟨_, e, q2, rfl, hs⟩ := hd 6 (by simp)
        exact rg_extract _ _ rfl _ (e 62 rfl) _ rfl ⟨_, rfl, .quiet rfl⟩
      · intro a γ v hj hu hd hf
        refine rg_alloc 28 rfl (stL nilA zeroP) (.agg (stL nilA zeroP).toArray) (by kernel_rfl) rfl ?_
        intro w' g hx hb h1 h2
        exact ⟨_, rfl, .box (by kernel_rfl) (by decide) hu hb h1 h2 hx⟩
      · intro a γ v hj hu hd hf
        obtain ⟨_, e1, g, rfl, hg, hx⟩ := hd 9 (by simp)
        obtain ⟨_, e2, q2, rfl, hs, hl⟩ := hd 7 (by simp)
        refine rg_store 28 _ _ rfl g (stL q2 s') (e1 16 rfl) (e2 69 rfl) 28 _ (hx hu) 15 infoSt rfl rfl (stL_one q2 s') ?_
        intro w' hx' hg'
        exact ⟨_, rfl, .set (k := 18) (by kernel_rfl) (by decide) rfl hg hu hg' ⟨q2, GE.st (.set 18 g hg hu hg') hs, hl, g, by rw [gset_other _ _ (by decide)]; exact hg, gset_same _ _ _, hx'⟩⟩
      · intro a γ v hj hu hd hf
        obtain ⟨_, e, rfl⟩ := hd 8 (by simp)
        exact rg_assign _ rfl _ (e 70 rfl) ⟨_, rfl, .quiet rfl⟩
    · intro V γ v hj h
      obtain ⟨g, h8, hg, _⟩ := h 9 (by decide)
      obtain ⟨q6, ⟨hr6, _⟩, hl6, g', hg', _, hx6⟩ := h 10 (by decide)
      have hv : V 11 = .int .i64 e' := h 11 (by decide)
      rw [hg] at hg'
      cases hg'
      have hgl := (hj.lt 18 g (by rw [hg]; rfl)).1
      have hsz3 := hj.below.size
      have HG6 := Lib.hid hx6
      have HP6 := Lib.hid hr6
      have HB6 := Lib.hid (below_two HB3.out hj.below)
      have HR6 := Lib.hid (HR3.out.below hj.below)
      have HL6 : Hid (∀ S : Nat → Prop, Lies q s S → Lies q6 s' (fun b => S b ∨ w3.heap.size ≤ b)) := Lib.hid (fun S hS => hl6 S (HLI.out S hS))
      simp only [List.map_cons, List.map_nil, putD, Act.put, List.setIfInBounds_toArray, List.set_cons_succ, List.set_cons_zero, Nat.reduceAdd, Nat.zero_add, h8, hv]
      clear hr6 hl6 hx6 hj h h8 hv hg
      go_wp2_with (first
        | (refine wp_loadS rfl 28 _ rfl g rfl 28 _ _ HG6.out Tryz.underlying28 rfl 15 infoSt rfl ?_)
        | (refine wp_storeS rfl 28 _ _ rfl (w.heap.size + 2) (stL q6 s') rfl rfl 28 _ HR6.out 15 infoSt rfl rfl (stL_one _ _) ?_))
      intro w7 hg7 hw7
      have HG := Lib.hid hg7
      have HB7 := Lib.hid (below_grown HB6.out HB6.out.size hw7 (by omega))
      have HP7 := Lib.hid (HP6.out.grown (HL6.out _ HP.out.lies) hw7 (by omega))
      have HL7 : Hid (∀ S : Nat → Prop, Lies q s S → Lies q6 s' (fun b => S b ∨ w.heap.size ≤ b)) := Lib.hid (fun S hS => (HL6.out S hS).mono (fun b hb => hb.imp id (fun h => by omega)))
      clear hg7 hw7
      go_wp2
      refine bodyPost_ret (results_S3 rfl _ _ (w.heap.size + 2) 28 (stL q6 s') _ rfl HG.out Tryz.underlying28 rfl 15 infoSt rfl _ _ rfl rfl) rfl ?_
      exact ⟨q6, rfl, ⟨HP7.out, HL7.out⟩, HB7.out⟩
  · have hd1 : n = 0 := by omega
    subst hd1
    obtain ⟨p1, p2, p3⟩ := pop_none (l := s.data) (by omega)
    have HP1 := Lib.hid p1
    have HP2 := Lib.hid p2
    have HP3 := Lib.hid p3
    have hr := HR.out
    have ht : takeD (s, 0) = (s, -4) := by
      unfold takeD
      rw [if_pos rfl, if_neg (by show ¬ 0 < s.data.length; omega)]
    unfold litD at hr
    rw [ht, emitD_no (by decide), fin_no (by decide)] at hr
    injection hr with ha hb
    subst ha hb
    clear hn p1 p2 p3 ht
    go_wp2_with fail
    refine (rpop_is q.d q.dc 0 s.data _ _ (-4) W HN.out HP1.out HP2.out HP3.out (HP.out.below HB0.out).data).mono ?_
    rintro r w1 ⟨A1, c1', A2, c2, ha, rfl, h1, h2, hb⟩
    have HB1 := Lib.hid (below_two HB0.out hb)
    have HR1 := Lib.hid (HR0.out.below hb)
    clear ha h1 h2 hb c1
    go_wp2_with (refine wp_storeS rfl 28 _ _ rfl (w.heap.size + 2) (stL nilA zeroP) rfl rfl 28 _ HR1.out 15 infoSt rfl rfl rfl ?_)
    intro w4 hg4 hw4
    have HG := Lib.hid hg4
    have HB4 := Lib.hid (below_grown HB1.out HB1.out.size hw4 (by omega))
    clear hg4 hw4
    go_wp2
    refine bodyPost_ret (results_S3 rfl _ _ (w.heap.size + 2) 28 (stL nilA zeroP) _ rfl HG.out Tryz.underlying28 rfl 15 infoSt rfl _ _ rfl rfl) rfl ?_
    exact ⟨nilA, rfl, Res.zero _ _ _ _, HB4.out⟩
set_option maxRecDepth 100000 in
set_option maxHeartbeats 4000000 in
theorem RReads_122 (q : Ad) (s : Ps) (x : Sx) (s' : Ps) (e' : Int) (w : World) (hr : fin (compD false (s, 0)) = (s', e')) (hp : RdP w q s) (_hsz : x.src.size ≤ 200) (hz : SzD s) (h0 : -9223372036854775808 ≤ s.here) (h1 : s.here ≤ 9223372036854775807) :
    Calls Tryz.prog 27 #[stV q s, suV x, .int .i64 122] w fun e w' => ∃ q', e = .returned (.tuple #[stV q' s', .int .i64 e', .bool true]) ∧ Res w.heap.size q s w' q' s' ∧ Below w.heap.size w w' := by
  have HR := Lib.hid hr
  have HZ := Lib.hid hz
  have HH := Lib.hid (And.intro h0 h1)
  clear hr hz h0 h1
  have hr := HR.out
  unfold compD fin at hr
  rw [if_pos rfl] at hr
  injection hr with ha hb
  subst hb
  have HS' := Lib.hid ha
  clear ha HR
  have hB0 := below_two (below_two (below_lit w (.cells (stL q s).toArray 28)) (below_lit _ (.cells (suL x).toArray 30))) (below_lit _ (.cells (stL nilA zeroP).toArray 28))
  have hS : Bx (((w.alloc (.cells (stL q s).toArray 28)).alloc (.cells (suL x).toArray 30)).alloc (.cells (stL nilA zeroP).toArray 28)) w.heap.size 28 (stL q s) := ((Bx.new w _ _ _ _ rfl rfl).alloc _).alloc _
  have hX : Bx (((w.alloc (.cells (stL q s).toArray 28)).alloc (.cells (suL x).toArray 30)).alloc (.cells (stL nilA zeroP).toArray 28)) (w.heap.size + 1) 30 (suL x) := (Bx.new _ _ _ _ _ (by simp) rfl).alloc _
  have hR : Bx (((w.alloc (.cells (stL q s).toArray 28)).alloc (.cells (suL x).toArray 30)).alloc (.cells (stL nilA zeroP).toArray 28)) (w.heap.size + 2) 28 (stL nilA zeroP) := Bx.new _ _ _ _ _ (by simp) rfl
  obtain ⟨W, hW⟩ : ∃ W, (((w.alloc (.cells #[.slice q.m s.mem.length q.mc, .slice q.d s.data.length q.dc, .slice q.r s.ret.length q.rc, .slice q.c s.ctl.length q.cc, .slice q.w s.words.length q.wc, .slice q.s s.spots.length q.sc, .slice q.o s.out.length q.oc, .int .i64 s.ip, .int .i64 s.here, .int .i64 s.pos, .int .i64 s.tok, .int .i64 s.inp, .int .i64 s.err, .bool s.comp, .bool s.halt] 28)).alloc (.cells #[.string x.src, .slice x.iA x.iN x.iC, .int .i64 x.size, .int .i64 x.depth, .int .i64 x.room] 30)).alloc (.cells #[.slice none 0 0, .slice none 0 0, .slice none 0 0, .slice none 0 0, .slice none 0 0, .slice none 0 0, .slice none 0 0, .int .i64 0, .int .i64 0, .int .i64 0, .int .i64 0, .int .i64 0, .int .i64 0, .bool false, .bool false] 28)) = W := ⟨_, rfl⟩
  have HB0 : Hid (Below w.heap.size w W) := Lib.hid (by rw [← hW]; exact hB0)
  have HA0 : Hid (Bx W w.heap.size 28 (stL q s)) := Lib.hid (by rw [← hW]; exact hS)
  have HX0 : Hid (Bx W (w.heap.size + 1) 30 (suL x)) := Lib.hid (by rw [← hW]; exact hX)
  have HR0 : Hid (Bx W (w.heap.size + 2) 28 (stL nilA zeroP)) := Lib.hid (by rw [← hW]; exact hR)
  have HP : Hid (RdP w q s) := Lib.hid hp
  have HWW := Lib.hid hW
  clear hp hB0 hS hX hR hW
  rw [stV_eq q s, suV_eq x]
  go_enter Tryz.func27, Tryz.ntmps27
  go_upto_region 1 with fail
  rw [HWW.out]
  have hW2 : w.heap.size + 2 < W.heap.size := HR0.out.lt
  go_wp2_with (refine wp_storeF rfl 4 _ _ rfl w.heap.size 13 _ rfl rfl rfl 28 _ HA0.out 15 rfl (by decide) info1b ?_)
  intro w2 hg2 hw2
  have HA2 : Hid (Bx w2 w.heap.size 28 (stL q s')) := Lib.hid (by rw [← HS'.out]; exact hg2)
  have HR2 := Lib.hid (HR0.out.grown hw2 (by omega))
  have HB2 := Lib.hid (below_grown HB0.out HB0.out.size hw2 (Nat.le_refl _))
  have HP2 : Hid (RdP w2 q s') := Lib.hid (by rw [← HS'.out]; exact (HP.out.below HB2.out).withComp _)
  have HL2 : Hid (∀ S, Lies q s S → Lies q s' S) := Lib.hid (fun S h => by rw [← HS'.out]; exact h.withComp _)
  clear hg2 hw2
  go_wp2_with (first
    | (refine wp_loadS rfl 28 _ rfl w.heap.size rfl 28 _ _ HA2.out Tryz.underlying28 rfl 15 infoSt rfl ?_)
    | (refine wp_storeS rfl 28 _ _ rfl (w.heap.size + 2) (stL q s') rfl rfl 28 _ HR2.out 15 infoSt rfl rfl (stL_one _ _) ?_))
  intro w3 hg3 hw3
  have HG := Lib.hid hg3
  have HB3 := Lib.hid (below_grown HB2.out HB2.out.size hw3 (by omega))
  have HP3 := Lib.hid (HP2.out.grown (HL2.out _ HP.out.lies) hw3 (by omega))
  clear hg3 hw3
  go_wp2
  refine bodyPost_ret (results_S3 rfl _ _ (w.heap.size + 2) 28 (stL q s') _ rfl HG.out Tryz.underlying28 rfl 15 infoSt rfl _ _ rfl rfl) rfl ?_
  exact ⟨q, rfl, ⟨HP3.out, fun S hS => (HL2.out S hS).mono (fun b hb => .inl hb)⟩, HB3.out⟩
set_option maxRecDepth 100000 in
set_option maxHeartbeats 4000000 in
theorem RReads_123 (q : Ad) (s : Ps) (x : Sx) (s' : Ps) (e' : Int) (w : World) (hr : fin (compD true (s, 0)) = (s', e')) (hp : RdP w q s) (_hsz : x.src.size ≤ 200) (hz : SzD s) (h0 : -9223372036854775808 ≤ s.here) (h1 : s.here ≤ 9223372036854775807) :
    Calls Tryz.prog 27 #[stV q s, suV x, .int .i64 123] w fun e w' => ∃ q', e = .returned (.tuple #[stV q' s', .int .i64 e', .bool true]) ∧ Res w.heap.size q s w' q' s' ∧ Below w.heap.size w w' := by
  have HR := Lib.hid hr
  have HZ := Lib.hid hz
  have HH := Lib.hid (And.intro h0 h1)
  clear hr hz h0 h1
  have hr := HR.out
  unfold compD fin at hr
  rw [if_pos rfl] at hr
  injection hr with ha hb
  subst hb
  have HS' := Lib.hid ha
  clear ha HR
  have hB0 := below_two (below_two (below_lit w (.cells (stL q s).toArray 28)) (below_lit _ (.cells (suL x).toArray 30))) (below_lit _ (.cells (stL nilA zeroP).toArray 28))
  have hS : Bx (((w.alloc (.cells (stL q s).toArray 28)).alloc (.cells (suL x).toArray 30)).alloc (.cells (stL nilA zeroP).toArray 28)) w.heap.size 28 (stL q s) := ((Bx.new w _ _ _ _ rfl rfl).alloc _).alloc _
  have hX : Bx (((w.alloc (.cells (stL q s).toArray 28)).alloc (.cells (suL x).toArray 30)).alloc (.cells (stL nilA zeroP).toArray 28)) (w.heap.size + 1) 30 (suL x) := (Bx.new _ _ _ _ _ (by simp) rfl).alloc _
  have hR : Bx (((w.alloc (.cells (stL q s).toArray 28)).alloc (.cells (suL x).toArray 30)).alloc (.cells (stL nilA zeroP).toArray 28)) (w.heap.size + 2) 28 (stL nilA zeroP) := Bx.new _ _ _ _ _ (by simp) rfl
  obtain ⟨W, hW⟩ : ∃ W, (((w.alloc (.cells #[.slice q.m s.mem.length q.mc, .slice q.d s.data.length q.dc, .slice q.r s.ret.length q.rc, .slice q.c s.ctl.length q.cc, .slice q.w s.words.length q.wc, .slice q.s s.spots.length q.sc, .slice q.o s.out.length q.oc, .int .i64 s.ip, .int .i64 s.here, .int .i64 s.pos, .int .i64 s.tok, .int .i64 s.inp, .int .i64 s.err, .bool s.comp, .bool s.halt] 28)).alloc (.cells #[.string x.src, .slice x.iA x.iN x.iC, .int .i64 x.size, .int .i64 x.depth, .int .i64 x.room] 30)).alloc (.cells #[.slice none 0 0, .slice none 0 0, .slice none 0 0, .slice none 0 0, .slice none 0 0, .slice none 0 0, .slice none 0 0, .int .i64 0, .int .i64 0, .int .i64 0, .int .i64 0, .int .i64 0, .int .i64 0, .bool false, .bool false] 28)) = W := ⟨_, rfl⟩
  have HB0 : Hid (Below w.heap.size w W) := Lib.hid (by rw [← hW]; exact hB0)
  have HA0 : Hid (Bx W w.heap.size 28 (stL q s)) := Lib.hid (by rw [← hW]; exact hS)
  have HX0 : Hid (Bx W (w.heap.size + 1) 30 (suL x)) := Lib.hid (by rw [← hW]; exact hX)
  have HR0 : Hid (Bx W (w.heap.size + 2) 28 (stL nilA zeroP)) := Lib.hid (by rw [← hW]; exact hR)
  have HP : Hid (RdP w q s) := Lib.hid hp
  have HWW := Lib.hid hW
  clear hp hB0 hS hX hR hW
  rw [stV_eq q s, suV_eq x]
  go_enter Tryz.func27, Tryz.ntmps27
  go_upto_region 1 with fail
  rw [HWW.out]
  have hW2 : w.heap.size + 2 < W.heap.size := HR0.out.lt
  go_wp2_with (refine wp_storeF rfl 4 _ _ rfl w.heap.size 13 _ rfl rfl rfl 28 _ HA0.out 15 rfl (by decide) info1b ?_)
  intro w2 hg2 hw2
  have HA2 : Hid (Bx w2 w.heap.size 28 (stL q s')) := Lib.hid (by rw [← HS'.out]; exact hg2)
  have HR2 := Lib.hid (HR0.out.grown hw2 (by omega))
  have HB2 := Lib.hid (below_grown HB0.out HB0.out.size hw2 (Nat.le_refl _))
  have HP2 : Hid (RdP w2 q s') := Lib.hid (by rw [← HS'.out]; exact (HP.out.below HB2.out).withComp _)
  have HL2 : Hid (∀ S, Lies q s S → Lies q s' S) := Lib.hid (fun S h => by rw [← HS'.out]; exact h.withComp _)
  clear hg2 hw2
  go_wp2_with (first
    | (refine wp_loadS rfl 28 _ rfl w.heap.size rfl 28 _ _ HA2.out Tryz.underlying28 rfl 15 infoSt rfl ?_)
    | (refine wp_storeS rfl 28 _ _ rfl (w.heap.size + 2) (stL q s') rfl rfl 28 _ HR2.out 15 infoSt rfl rfl (stL_one _ _) ?_))
  intro w3 hg3 hw3
  have HG := Lib.hid hg3
  have HB3 := Lib.hid (below_grown HB2.out HB2.out.size hw3 (by omega))
  have HP3 := Lib.hid (HP2.out.grown (HL2.out _ HP.out.lies) hw3 (by omega))
  clear hg3 hw3
  go_wp2
  refine bodyPost_ret (results_S3 rfl _ _ (w.heap.size + 2) 28 (stL q s') _ rfl HG.out Tryz.underlying28 rfl 15 infoSt rfl _ _ rfl rfl) rfl ?_
  exact ⟨q, rfl, ⟨HP3.out, fun S hS => (HL2.out S hS).mono (fun b hb => .inl hb)⟩, HB3.out⟩
set_option maxRecDepth 100000 in
set_option maxHeartbeats 4000000 in
theorem RReads_127 (q : Ad) (s : Ps) (x : Sx) (s' : Ps) (e' : Int) (w : World) (hr : fin (parD x (s, 0)) = (s', e')) (hp : RdP w q s) (hsz : x.src.size ≤ 200) (hz : SzD s) (h0 : -9223372036854775808 ≤ s.here) (h1 : s.here ≤ 9223372036854775807) :
    Calls Tryz.prog 27 #[stV q s, suV x, .int .i64 127] w fun e w' => ∃ q', e = .returned (.tuple #[stV q' s', .int .i64 e', .bool true]) ∧ Res w.heap.size q s w' q' s' ∧ Below w.heap.size w w' := by
  have HR := Lib.hid hr
  have HZ := Lib.hid hz
  have HH := Lib.hid (And.intro h0 h1)
  clear hr hz h0 h1
  have hr := HR.out
  unfold parD fin at hr
  rw [if_pos rfl] at hr
  injection hr with ha hb
  subst hb
  have HS' := Lib.hid ha
  clear ha HR
  have hB0 := below_two (below_two (below_lit w (.cells (stL q s).toArray 28)) (below_lit _ (.cells (suL x).toArray 30))) (below_lit _ (.cells (stL nilA zeroP).toArray 28))
  have hS : Bx (((w.alloc (.cells (stL q s).toArray 28)).alloc (.cells (suL x).toArray 30)).alloc (.cells (stL nilA zeroP).toArray 28)) w.heap.size 28 (stL q s) := ((Bx.new w _ _ _ _ rfl rfl).alloc _).alloc _
  have hX : Bx (((w.alloc (.cells (stL q s).toArray 28)).alloc (.cells (suL x).toArray 30)).alloc (.cells (stL nilA zeroP).toArray 28)) (w.heap.size + 1) 30 (suL x) := (Bx.new _ _ _ _ _ (by simp) rfl).alloc _
  have hR : Bx (((w.alloc (.cells (stL q s).toArray 28)).alloc (.cells (suL x).toArray 30)).alloc (.cells (stL nilA zeroP).toArray 28)) (w.heap.size + 2) 28 (stL nilA zeroP) := Bx.new _ _ _ _ _ (by simp) rfl
  obtain ⟨W, hW⟩ : ∃ W, (((w.alloc (.cells #[.slice q.m s.mem.length q.mc, .slice q.d s.data.length q.dc, .slice q.r s.ret.length q.rc, .slice q.c s.ctl.length q.cc, .slice q.w s.words.length q.wc, .slice q.s s.spots.length q.sc, .slice q.o s.out.length q.oc, .int .i64 s.ip, .int .i64 s.here, .int .i64 s.pos, .int .i64 s.tok, .int .i64 s.inp, .int .i64 s.err, .bool s.comp, .bool s.halt] 28)).alloc (.cells #[.string x.src, .slice x.iA x.iN x.iC, .int .i64 x.size, .int .i64 x.depth, .int .i64 x.room] 30)).alloc (.cells #[.slice none 0 0, .slice none 0 0, .slice none 0 0, .slice none 0 0, .slice none 0 0, .slice none 0 0, .slice none 0 0, .int .i64 0, .int .i64 0, .int .i64 0, .int .i64 0, .int .i64 0, .int .i64 0, .bool false, .bool false] 28)) = W := ⟨_, rfl⟩
  have HB0 : Hid (Below w.heap.size w W) := Lib.hid (by rw [← hW]; exact hB0)
  have HA0 : Hid (Bx W w.heap.size 28 (stL q s)) := Lib.hid (by rw [← hW]; exact hS)
  have HX0 : Hid (Bx W (w.heap.size + 1) 30 (suL x)) := Lib.hid (by rw [← hW]; exact hX)
  have HR0 : Hid (Bx W (w.heap.size + 2) 28 (stL nilA zeroP)) := Lib.hid (by rw [← hW]; exact hR)
  have HP : Hid (RdP w q s) := Lib.hid hp
  have HWW := Lib.hid hW
  clear hp hB0 hS hX hR hW
  rw [stV_eq q s, suV_eq x]
  go_enter Tryz.func27, Tryz.ntmps27
  go_upto_region 1 with fail
  rw [HWW.out]
  have hW2 : w.heap.size + 2 < W.heap.size := HR0.out.lt
  have hs2 : x.src.size ≤ maxLen := by unfold maxLen; omega
  have x0 : W.cell? ⟨w.heap.size + 1, 0, none⟩ = some (.string x.src) := HX0.out.cell 0
  have c9 : W.cell? ⟨w.heap.size, 9, none⟩ = some (.int .i64 s.pos) := HA0.out.cell 9
  go_wp2_with fail
  refine (L06.RUntil_any x.src s.pos 41 W hs2 (by decide) (by decide)).mono ?_
  rintro r w1 ⟨rfl, rfl⟩
  go_wp2_with (refine wp_storeF rfl 3 _ _ rfl w.heap.size 9 _ rfl rfl rfl 28 _ HA0.out 15 rfl (by decide) info1i ?_)
  intro w2 hg2 hw2
  have HA2 : Hid (Bx w2 w.heap.size 28 (stL q s')) := Lib.hid (by rw [← HS'.out]; exact hg2)
  have HR2 := Lib.hid (HR0.out.grown hw2 (by omega))
  have HB2 := Lib.hid (below_grown HB0.out HB0.out.size hw2 (Nat.le_refl _))
  have HP2 : Hid (RdP w2 q s') := Lib.hid (by rw [← HS'.out]; exact (HP.out.below HB2.out).withPos _)
  have HL2 : Hid (∀ S, Lies q s S → Lies q s' S) := Lib.hid (fun S h => by rw [← HS'.out]; exact h.withPos _)
  clear hg2 hw2
  go_wp2_with (first
    | (refine wp_loadS rfl 28 _ rfl w.heap.size rfl 28 _ _ HA2.out Tryz.underlying28 rfl 15 infoSt rfl ?_)
    | (refine wp_storeS rfl 28 _ _ rfl (w.heap.size + 2) (stL q s') rfl rfl 28 _ HR2.out 15 infoSt rfl rfl (stL_one _ _) ?_))
  intro w3 hg3 hw3
  have HG := Lib.hid hg3
  have HB3 := Lib.hid (below_grown HB2.out HB2.out.size hw3 (by omega))
  have HP3 := Lib.hid (HP2.out.grown (HL2.out _ HP.out.lies) hw3 (by omega))
  clear hg3 hw3
  go_wp2
  refine bodyPost_ret (results_S3 rfl _ _ (w.heap.size + 2) 28 (stL q s') _ rfl HG.out Tryz.underlying28 rfl 15 infoSt rfl _ _ rfl rfl) rfl ?_
  exact ⟨q, rfl, ⟨HP3.out, fun S hS => (HL2.out S hS).mono (fun b hb => .inl hb)⟩, HB3.out⟩
set_option maxRecDepth 100000 in
set_option maxHeartbeats 4000000 in
theorem RReads_128 (q : Ad) (s : Ps) (x : Sx) (s' : Ps) (e' : Int) (w : World) (hr : fin (lineD x (s, 0)) = (s', e')) (hp : RdP w q s) (hsz : x.src.size ≤ 200) (hz : SzD s) (h0 : -9223372036854775808 ≤ s.here) (h1 : s.here ≤ 9223372036854775807) :
    Calls Tryz.prog 27 #[stV q s, suV x, .int .i64 128] w fun e w' => ∃ q', e = .returned (.tuple #[stV q' s', .int .i64 e', .bool true]) ∧ Res w.heap.size q s w' q' s' ∧ Below w.heap.size w w' := by
  have HR := Lib.hid hr
  have HZ := Lib.hid hz
  have HH := Lib.hid (And.intro h0 h1)
  clear hr hz h0 h1
  have hr := HR.out
  unfold lineD fin at hr
  rw [if_pos rfl] at hr
  injection hr with ha hb
  subst hb
  have HS' := Lib.hid ha
  clear ha HR
  have hB0 := below_two (below_two (below_lit w (.cells (stL q s).toArray 28)) (below_lit _ (.cells (suL x).toArray 30))) (below_lit _ (.cells (stL nilA zeroP).toArray 28))
  have hS : Bx (((w.alloc (.cells (stL q s).toArray 28)).alloc (.cells (suL x).toArray 30)).alloc (.cells (stL nilA zeroP).toArray 28)) w.heap.size 28 (stL q s) := ((Bx.new w _ _ _ _ rfl rfl).alloc _).alloc _
  have hX : Bx (((w.alloc (.cells (stL q s).toArray 28)).alloc (.cells (suL x).toArray 30)).alloc (.cells (stL nilA zeroP).toArray 28)) (w.heap.size + 1) 30 (suL x) := (Bx.new _ _ _ _ _ (by simp) rfl).alloc _
  have hR : Bx (((w.alloc (.cells (stL q s).toArray 28)).alloc (.cells (suL x).toArray 30)).alloc (.cells (stL nilA zeroP).toArray 28)) (w.heap.size + 2) 28 (stL nilA zeroP) := Bx.new _ _ _ _ _ (by simp) rfl
  obtain ⟨W, hW⟩ : ∃ W, (((w.alloc (.cells #[.slice q.m s.mem.length q.mc, .slice q.d s.data.length q.dc, .slice q.r s.ret.length q.rc, .slice q.c s.ctl.length q.cc, .slice q.w s.words.length q.wc, .slice q.s s.spots.length q.sc, .slice q.o s.out.length q.oc, .int .i64 s.ip, .int .i64 s.here, .int .i64 s.pos, .int .i64 s.tok, .int .i64 s.inp, .int .i64 s.err, .bool s.comp, .bool s.halt] 28)).alloc (.cells #[.string x.src, .slice x.iA x.iN x.iC, .int .i64 x.size, .int .i64 x.depth, .int .i64 x.room] 30)).alloc (.cells #[.slice none 0 0, .slice none 0 0, .slice none 0 0, .slice none 0 0, .slice none 0 0, .slice none 0 0, .slice none 0 0, .int .i64 0, .int .i64 0, .int .i64 0, .int .i64 0, .int .i64 0, .int .i64 0, .bool false, .bool false] 28)) = W := ⟨_, rfl⟩
  have HB0 : Hid (Below w.heap.size w W) := Lib.hid (by rw [← hW]; exact hB0)
  have HA0 : Hid (Bx W w.heap.size 28 (stL q s)) := Lib.hid (by rw [← hW]; exact hS)
  have HX0 : Hid (Bx W (w.heap.size + 1) 30 (suL x)) := Lib.hid (by rw [← hW]; exact hX)
  have HR0 : Hid (Bx W (w.heap.size + 2) 28 (stL nilA zeroP)) := Lib.hid (by rw [← hW]; exact hR)
  have HP : Hid (RdP w q s) := Lib.hid hp
  have HWW := Lib.hid hW
  clear hp hB0 hS hX hR hW
  rw [stV_eq q s, suV_eq x]
  go_enter Tryz.func27, Tryz.ntmps27
  go_upto_region 1 with fail
  rw [HWW.out]
  have hW2 : w.heap.size + 2 < W.heap.size := HR0.out.lt
  have hs2 : x.src.size ≤ maxLen := by unfold maxLen; omega
  have x0 : W.cell? ⟨w.heap.size + 1, 0, none⟩ = some (.string x.src) := HX0.out.cell 0
  have c9 : W.cell? ⟨w.heap.size, 9, none⟩ = some (.int .i64 s.pos) := HA0.out.cell 9
  go_wp2_with fail
  refine (L06.RLine_any x.src s.pos W hs2).mono ?_
  rintro r w1 ⟨rfl, rfl⟩
  go_wp2_with (refine wp_storeF rfl 3 _ _ rfl w.heap.size 9 _ rfl rfl rfl 28 _ HA0.out 15 rfl (by decide) info1i ?_)
  intro w2 hg2 hw2
  have HA2 : Hid (Bx w2 w.heap.size 28 (stL q s')) := Lib.hid (by rw [← HS'.out]; exact hg2)
  have HR2 := Lib.hid (HR0.out.grown hw2 (by omega))
  have HB2 := Lib.hid (below_grown HB0.out HB0.out.size hw2 (Nat.le_refl _))
  have HP2 : Hid (RdP w2 q s') := Lib.hid (by rw [← HS'.out]; exact (HP.out.below HB2.out).withPos _)
  have HL2 : Hid (∀ S, Lies q s S → Lies q s' S) := Lib.hid (fun S h => by rw [← HS'.out]; exact h.withPos _)
  clear hg2 hw2
  go_wp2_with (first
    | (refine wp_loadS rfl 28 _ rfl w.heap.size rfl 28 _ _ HA2.out Tryz.underlying28 rfl 15 infoSt rfl ?_)
    | (refine wp_storeS rfl 28 _ _ rfl (w.heap.size + 2) (stL q s') rfl rfl 28 _ HR2.out 15 infoSt rfl rfl (stL_one _ _) ?_))
  intro w3 hg3 hw3
  have HG := Lib.hid hg3
  have HB3 := Lib.hid (below_grown HB2.out HB2.out.size hw3 (by omega))
  have HP3 := Lib.hid (HP2.out.grown (HL2.out _ HP.out.lies) hw3 (by omega))
  clear hg3 hw3
  go_wp2
  refine bodyPost_ret (results_S3 rfl _ _ (w.heap.size + 2) 28 (stL q s') _ rfl HG.out Tryz.underlying28 rfl 15 infoSt rfl _ _ rfl rfl) rfl ?_
  exact ⟨q, rfl, ⟨HP3.out, fun S hS => (HL2.out S hS).mono (fun b hb => .inl hb)⟩, HB3.out⟩
set_option maxRecDepth 100000 in
set_option maxHeartbeats 4000000 in
theorem RReads_none (k : Int) (q : Ad) (s : Ps) (x : Sx) (w : World) (hk : k ≠ 118 ∧ k ≠ 119 ∧ k ≠ 120 ∧ k ≠ 121 ∧ k ≠ 122 ∧ k ≠ 123 ∧ k ≠ 125 ∧ k ≠ 126 ∧ k ≠ 127 ∧ k ≠ 128 ∧ k ≠ 129) (hp : RdP w q s) :
    Calls Tryz.prog 27 #[stV q s, suV x, .int .i64 k] w fun e w' => e = .returned (.tuple #[stV nilA zeroP, .int .i64 0, .bool false]) ∧ Below w.heap.size w w' := by
  have hB0 := below_two (below_two (below_lit w (.cells (stL q s).toArray 28)) (below_lit _ (.cells (suL x).toArray 30))) (below_lit _ (.cells (stL nilA zeroP).toArray 28))
  have hS : Bx (((w.alloc (.cells (stL q s).toArray 28)).alloc (.cells (suL x).toArray 30)).alloc (.cells (stL nilA zeroP).toArray 28)) w.heap.size 28 (stL q s) := ((Bx.new w _ _ _ _ rfl rfl).alloc _).alloc _
  have hX : Bx (((w.alloc (.cells (stL q s).toArray 28)).alloc (.cells (suL x).toArray 30)).alloc (.cells (stL nilA zeroP).toArray 28)) (w.heap.size + 1) 30 (suL x) := (Bx.new _ _ _ _ _ (by simp) rfl).alloc _
  have hR : Bx (((w.alloc (.cells (stL q s).toArray 28)).alloc (.cells (suL x).toArray 30)).alloc (.cells (stL nilA zeroP).toArray 28)) (w.heap.size + 2) 28 (stL nilA zeroP) := Bx.new _ _ _ _ _ (by simp) rfl
  obtain ⟨W, hW⟩ : ∃ W, (((w.alloc (.cells #[.slice q.m s.mem.length q.mc, .slice q.d s.data.length q.dc, .slice q.r s.ret.length q.rc, .slice q.c s.ctl.length q.cc, .slice q.w s.words.length q.wc, .slice q.s s.spots.length q.sc, .slice q.o s.out.length q.oc, .int .i64 s.ip, .int .i64 s.here, .int .i64 s.pos, .int .i64 s.tok, .int .i64 s.inp, .int .i64 s.err, .bool s.comp, .bool s.halt] 28)).alloc (.cells #[.string x.src, .slice x.iA x.iN x.iC, .int .i64 x.size, .int .i64 x.depth, .int .i64 x.room] 30)).alloc (.cells #[.slice none 0 0, .slice none 0 0, .slice none 0 0, .slice none 0 0, .slice none 0 0, .slice none 0 0, .slice none 0 0, .int .i64 0, .int .i64 0, .int .i64 0, .int .i64 0, .int .i64 0, .int .i64 0, .bool false, .bool false] 28)) = W := ⟨_, rfl⟩
  have HB0 : Hid (Below w.heap.size w W) := Lib.hid (by rw [← hW]; exact hB0)
  have HA0 : Hid (Bx W w.heap.size 28 (stL q s)) := Lib.hid (by rw [← hW]; exact hS)
  have HX0 : Hid (Bx W (w.heap.size + 1) 30 (suL x)) := Lib.hid (by rw [← hW]; exact hX)
  have HR0 : Hid (Bx W (w.heap.size + 2) 28 (stL nilA zeroP)) := Lib.hid (by rw [← hW]; exact hR)
  have HP : Hid (RdP w q s) := Lib.hid hp
  have HWW := Lib.hid hW
  clear hp hB0 hS hX hR hW
  rw [stV_eq q s, suV_eq x]
  go_enter Tryz.func27, Tryz.ntmps27
  go_upto_region 1 with fail
  rw [HWW.out]
  have hW2 : w.heap.size + 2 < W.heap.size := HR0.out.lt
  obtain ⟨k118, k119, k120, k121, k122, k123, k125, k126, k127, k128, k129⟩ := hk
  go_wp2_with (refine wp_storeS rfl 28 _ _ rfl (w.heap.size + 2) (stL nilA zeroP) rfl rfl 28 _ HR0.out 15 infoSt rfl rfl rfl ?_)
  intro w4 hg4 hw4
  have HG := Lib.hid hg4
  have HB4 := Lib.hid (below_grown HB0.out HB0.out.size hw4 (by omega))
  clear hg4 hw4
  go_wp2
  refine bodyPost_ret (results_S3 rfl _ _ (w.heap.size + 2) 28 (stL nilA zeroP) _ rfl HG.out Tryz.underlying28 rfl 15 infoSt rfl _ _ rfl rfl) rfl ?_
  exact ⟨rfl, HB4.out⟩
end Go.Proofs.YtappfhjknihboaaGreatDoor
