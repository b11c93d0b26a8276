
/- nostosref11.recurse; nostosref11.Do of it. Printed by genrrec.py. -/
import Derived.Test.YtfkkmlgblhnkaaaDoorRDoB
import Derived.Test.YtfkkmlgblhnkaaaDoorME
namespace Go.Proofs.YtfkkmlgblhnkaaaDoor
open Go.RowKit

/-- A state is boxed, and one of zeroes is made. -/
theorem two_boxes (q : Ad) (s : Ps) (w : World) : ∃ W0, (w.alloc (.cells (stL q s).toArray 28)).alloc (.cells (stL nilA zeroP).toArray 28) = W0 ∧ Below w.heap.size w W0 ∧ Bx W0 w.heap.size 28 (stL q s) ∧ Bx W0 (w.heap.size + 1) 28 (stL nilA zeroP) :=
  ⟨_, rfl, below_two (below_lit w _) (below_lit _ _), (Bx.new w _ _ _ _ rfl rfl).alloc _, Bx.new _ _ _ _ _ (by simp) rfl⟩

set_option maxRecDepth 100000 in
set_option maxHeartbeats 8000000 in
theorem RRecurse_any (q : Ad) (s s' : Ps) (e' : Int) (w : World) (hr : recurseW (s, 0) = (s', e')) (hp : RdP w q s) (hz : Sz s 100000) (hwl : s.words.length ≤ 1000000) :
    Calls Tryd.prog 19 #[stV q s] w fun r w' => ∃ q', r = .returned (.tuple #[stV q' s', .int .i64 e']) ∧ Res w.heap.size q s w' q' s' ∧ Below w.heap.size w w' := by
  have HPw := Lib.hid hp
  obtain ⟨hzm, hzs, hzc⟩ := hz
  obtain ⟨W0, hW0⟩ : ∃ W0, (w.alloc (.cells (stL q s).toArray 28)).alloc (.cells (stL nilA zeroP).toArray 28) = W0 := ⟨_, rfl⟩
  have HB0 : Hid (Below w.heap.size w W0) := Lib.hid (by rw [← hW0]; exact below_two (below_lit w _) (below_lit _ _))
  have HG0 : Hid (Bx W0 w.heap.size 28 (stL q s)) := Lib.hid (by rw [← hW0]; exact (Bx.new w _ _ _ _ rfl rfl).alloc _)
  have HR0 : Hid (Bx W0 (w.heap.size + 1) 28 (stL nilA zeroP)) := Lib.hid (by rw [← hW0]; exact Bx.new _ _ _ _ _ (by simp) rfl)
  have hW0' : (w.alloc (.cells #[.slice q.m s.mem.length q.mc, .slice q.d s.data.length q.dc, .slice q.r s.ret.length q.rc, .slice q.c s.ctl.length q.cc, .slice q.w s.words.length q.wc, .slice q.s s.spots.length q.sc, .slice q.o s.out.length q.oc, .int .i64 s.ip, .int .i64 s.here, .int .i64 s.pos, .int .i64 s.tok, .int .i64 s.inp, .int .i64 s.err, .bool s.comp, .bool s.halt] 28)).alloc (.cells #[.slice none 0 0, .slice none 0 0, .slice none 0 0, .slice none 0 0, .slice none 0 0, .slice none 0 0, .slice none 0 0, .int .i64 0, .int .i64 0, .int .i64 0, .int .i64 0, .int .i64 0, .int .i64 0, .bool false, .bool false] 28) = W0 := hW0
  obtain ⟨n, hn⟩ : ∃ n, s.words.length = n := ⟨_, rfl⟩
  have c4 : W0.cell? ⟨w.heap.size, 4, none⟩ = some (.slice q.w n q.wc) := by rw [← hn]; exact HG0.out.cell 4
  have HN := Lib.hid hn
  rw [hn] at hwl
  by_cases h0 : n = 0
  · subst h0
    have hr2 := recurse_no hr (List.eq_nil_of_length_eq_zero hn)
    rw [if_pos rfl] at hr2
    injection hr2 with h1 h2
    subst h1 h2
    rw [stV_eq q s]
    clear hr hn hp
    go_enter Tryd.func19, Tryd.ntmps19
    go_wp2_with (refine wp_storeS rfl 28 _ _ rfl (w.heap.size + 1) (stL nilA zeroP) rfl rfl 28 _ HR0.out 15 infoSt rfl rfl rfl ?_)
    intro wz hgz hwz
    have HRz := Lib.hid hgz
    have HBz := Lib.hid (below_grown HB0.out HB0.out.size hwz (by omega))
    clear hgz hwz
    go_wp2
    refine bodyPost_ret (v := .tuple #[stV nilA zeroP, .int .i64 (-22)]) (results_S rfl _ _ _ 28 _ _ rfl HRz.out Tryd.underlying28 rfl 15 infoSt rfl _ rfl) rfl ?_
    exact ⟨nilA, rfl, Res.zero _ _ _ _, HBz.out⟩
  · obtain ⟨K, hK⟩ : ∃ K, n = K + 1 := ⟨n - 1, by omega⟩
    have hr2 := recurse_at hr (by rw [hn, hK])
    obtain ⟨ad, hA, hcell⟩ := RdE.all encW_len (by decide) (hp.words.below HB0.out) (by rw [hn]; omega)
    have k1 := hcell.at' (j := K) (by rw [hn]; omega) 1 (by decide) (v := .int .i64 (s.words[K]!).code) rfl
    have k3 := hcell.at' (j := K) (by rw [hn]; omega) 3 (by decide) (v := .bool (s.words[K]!).hid) rfl
    obtain ⟨u, hu⟩ : ∃ u, s.words[K]! = u := ⟨_, rfl⟩
    rw [hu] at hr2 k1 k3
    rw [hA] at c4
    have eK : (n : Int) - 1 = (K : Int) := by omega
    have hwK : IntKind.i64.wrap (K : Int) = (K : Int) := by rw [IntKind.wrap_i64]; omega
    have b0 : ¬ (K : Int) < 0 := by omega
    have b1 : (0 : Int) ≤ (K : Int) := by omega
    have b2 : (K : Int) < (n : Int) := by omega
    obtain ⟨nm, code, now, hid⟩ := u
    simp only at hr2 k1 k3
    cases hid with
    | false =>
      rw [if_neg (by decide), if_pos trivial] at hr2
      injection hr2 with h1 h2
      subst h1 h2
      rw [stV_eq q s]
      clear hr hn hA hcell hu hK hp
      go_enter Tryd.func19, Tryd.ntmps19
      go_wp2_with (refine wp_storeS rfl 28 _ _ rfl (w.heap.size + 1) (stL nilA zeroP) rfl rfl 28 _ HR0.out 15 infoSt rfl rfl rfl ?_)
      intro wz hgz hwz
      have HRz := Lib.hid hgz
      have HBz := Lib.hid (below_grown HB0.out HB0.out.size hwz (by omega))
      clear hgz hwz
      go_wp2
      refine bodyPost_ret (v := .tuple #[stV nilA zeroP, .int .i64 (-22)]) (results_S rfl _ _ _ 28 _ _ rfl HRz.out Tryd.underlying28 rfl 15 infoSt rfl _ rfl) rfl ?_
      exact ⟨nilA, rfl, Res.zero _ _ _ _, HBz.out⟩
    | true =>
      rw [if_pos trivial, if_pos trivial] at hr2
      injection hr2 with h1 h2
      obtain ⟨z0, z1, z2, z3, z4, z5, z6, z7, z8, z9, z10, z11, z12, z13, z14⟩ := HG0.out.st15
      rw [hn, hA] at z4
      clear c4
      have hbl := below_lit W0 (.cells #[.int .i64 code] 3)
      obtain ⟨y0, y1, y2, y3, y4, y5, y6, y7, y8, y9, y10, y11, y12, y13, y14⟩ := (HG0.out.below hbl).st15
      rw [hn, hA] at y4
      have l1 := (hbl.cell (World.block_lt_of_cell? W0 _ k1)).trans k1
      have HBL : Hid (Below W0.heap.size W0 (W0.alloc (.cells #[.int .i64 code] 3)).drew) := Lib.hid hbl.drew
      have HX : Hid (RdI (W0.alloc (.cells #[.int .i64 code] 3)).drew .i64 (some ⟨W0.heap.size, 0, none⟩) 1 [code]) := Lib.hid (Rd.below (rd_alloc W0 (nums .i64 [code]) #[.int .i64 code] 3 (0, 0) 1 1 1 rfl rfl (by decide) (by decide)) (Below.refl _ _).drew)
      have he := REmit_any q s _ 1 1 [code] s' e' _ rfl h1 h2 (hp.below (below_two HB0.out HBL.out)) HX.out (by omega) (by omega)
      rw [stV_eq q s, hn, hA] at he
      have HE := Lib.hid he
      have hwW : w.heap.size + 2 ≤ W0.heap.size := HR0.out.lt
      clear he hbl hr hn hcell hu hK h1 h2 hp
      rw [stV_eq q s, HN.out, hA]
      have hW1 := hW0'
      rw [HN.out, hA] at hW1
      have HW1 := Lib.hid hW1
      clear hW0 hW0' hW1
      go_enter Tryd.func19, Tryd.ntmps19
      go_wp2_with (rw [HW1.out])
      go_region_law (go_simp; go_at_call 24; with_reducible refine HE.out.mono ?_; rintro r w2 ⟨q2, rfl, hr, hb⟩; have hb2 : Below W0.heap.size W0 w2 := below_two HBL.out hb; obtain ⟨⟨r0, r1, r2, r3, r4, r5, r6, r7, r8, r9, r10, r11, r12, r13, r14⟩, f0, f1, f2, f3, f4, f5, f6, f7, f8, f9, f10, f11, f12, f13, f14⟩ := (HR0.out.below hb2).z15; rw [stV_eq q2 s'])
      all_goals
        have HRW := Lib.hid (show Bx _ (w.heap.size + 1) 28 (stL q2 s') from ((((((((((((((((HR0.out.below hb2).setc 0 (.slice q2.m s'.mem.length q2.mc)).setc 1 (.slice q2.d s'.data.length q2.dc)).setc 2 (.slice q2.r s'.ret.length q2.rc)).setc 3 (.slice q2.c s'.ctl.length q2.cc)).setc 4 (.slice q2.w s'.words.length q2.wc)).setc 5 (.slice q2.s s'.spots.length q2.sc)).setc 6 (.slice q2.o s'.out.length q2.oc)).setc 7 (.int .i64 s'.ip)).setc 8 (.int .i64 s'.here)).setc 9 (.int .i64 s'.pos)).setc 10 (.int .i64 s'.tok)).setc 11 (.int .i64 s'.inp)).setc 12 (.int .i64 s'.err)).setc 13 (.bool s'.comp)).setc 14 (.bool s'.halt)))
        have HBW2 : Hid (Below (w.heap.size + 1) w2 (((((((((((((((w2.setCell ⟨w.heap.size + 1, 0, none⟩ (.slice q2.m s'.mem.length q2.mc)).setCell ⟨w.heap.size + 1, 1, none⟩ (.slice q2.d s'.data.length q2.dc)).setCell ⟨w.heap.size + 1, 2, none⟩ (.slice q2.r s'.ret.length q2.rc)).setCell ⟨w.heap.size + 1, 3, none⟩ (.slice q2.c s'.ctl.length q2.cc)).setCell ⟨w.heap.size + 1, 4, none⟩ (.slice q2.w s'.words.length q2.wc)).setCell ⟨w.heap.size + 1, 5, none⟩ (.slice q2.s s'.spots.length q2.sc)).setCell ⟨w.heap.size + 1, 6, none⟩ (.slice q2.o s'.out.length q2.oc)).setCell ⟨w.heap.size + 1, 7, none⟩ (.int .i64 s'.ip)).setCell ⟨w.heap.size + 1, 8, none⟩ (.int .i64 s'.here)).setCell ⟨w.heap.size + 1, 9, none⟩ (.int .i64 s'.pos)).setCell ⟨w.heap.size + 1, 10, none⟩ (.int .i64 s'.tok)).setCell ⟨w.heap.size + 1, 11, none⟩ (.int .i64 s'.inp)).setCell ⟨w.heap.size + 1, 12, none⟩ (.int .i64 s'.err)).setCell ⟨w.heap.size + 1, 13, none⟩ (.bool s'.comp)).setCell ⟨w.heap.size + 1, 14, none⟩ (.bool s'.halt))) := Lib.hid (by (iterate 15 refine below_set ?_); exact Below.refl _ _)
        have HQ : Hid (Res (w.heap.size + 2) q s (((((((((((((((w2.setCell ⟨w.heap.size + 1, 0, none⟩ (.slice q2.m s'.mem.length q2.mc)).setCell ⟨w.heap.size + 1, 1, none⟩ (.slice q2.d s'.data.length q2.dc)).setCell ⟨w.heap.size + 1, 2, none⟩ (.slice q2.r s'.ret.length q2.rc)).setCell ⟨w.heap.size + 1, 3, none⟩ (.slice q2.c s'.ctl.length q2.cc)).setCell ⟨w.heap.size + 1, 4, none⟩ (.slice q2.w s'.words.length q2.wc)).setCell ⟨w.heap.size + 1, 5, none⟩ (.slice q2.s s'.spots.length q2.sc)).setCell ⟨w.heap.size + 1, 6, none⟩ (.slice q2.o s'.out.length q2.oc)).setCell ⟨w.heap.size + 1, 7, none⟩ (.int .i64 s'.ip)).setCell ⟨w.heap.size + 1, 8, none⟩ (.int .i64 s'.here)).setCell ⟨w.heap.size + 1, 9, none⟩ (.int .i64 s'.pos)).setCell ⟨w.heap.size + 1, 10, none⟩ (.int .i64 s'.tok)).setCell ⟨w.heap.size + 1, 11, none⟩ (.int .i64 s'.inp)).setCell ⟨w.heap.size + 1, 12, none⟩ (.int .i64 s'.err)).setCell ⟨w.heap.size + 1, 13, none⟩ (.bool s'.comp)).setCell ⟨w.heap.size + 1, 14, none⟩ (.bool s'.halt)) q2 s') := Lib.hid (by
          (iterate 15 refine Res.setc ?_ HPw.out (by omega) (by omega))
          exact hr.mono (by simp; omega))
        generalize (((((((((((((((w2.setCell ⟨w.heap.size + 1, 0, none⟩ (.slice q2.m s'.mem.length q2.mc)).setCell ⟨w.heap.size + 1, 1, none⟩ (.slice q2.d s'.data.length q2.dc)).setCell ⟨w.heap.size + 1, 2, none⟩ (.slice q2.r s'.ret.length q2.rc)).setCell ⟨w.heap.size + 1, 3, none⟩ (.slice q2.c s'.ctl.length q2.cc)).setCell ⟨w.heap.size + 1, 4, none⟩ (.slice q2.w s'.words.length q2.wc)).setCell ⟨w.heap.size + 1, 5, none⟩ (.slice q2.s s'.spots.length q2.sc)).setCell ⟨w.heap.size + 1, 6, none⟩ (.slice q2.o s'.out.length q2.oc)).setCell ⟨w.heap.size + 1, 7, none⟩ (.int .i64 s'.ip)).setCell ⟨w.heap.size + 1, 8, none⟩ (.int .i64 s'.here)).setCell ⟨w.heap.size + 1, 9, none⟩ (.int .i64 s'.pos)).setCell ⟨w.heap.size + 1, 10, none⟩ (.int .i64 s'.tok)).setCell ⟨w.heap.size + 1, 11, none⟩ (.int .i64 s'.inp)).setCell ⟨w.heap.size + 1, 12, none⟩ (.int .i64 s'.err)).setCell ⟨w.heap.size + 1, 13, none⟩ (.bool s'.comp)).setCell ⟨w.heap.size + 1, 14, none⟩ (.bool s'.halt)) = w6 at HRW HBW2 HQ ⊢
        have HB6 := Lib.hid ((below_two HB0.out hb2).trans (HBW2.out.mono (by omega)))
        clear HBW2 hr hb hb2 z0 z1 z2 z3 z4 z5 z6 z7 z8 z9 z10 z11 z12 z13 z14 y0 y1 y2 y3 y4 y5 y6 y7 y8 y9 y10 y11 y12 y13 y14 r0 r1 r2 r3 r4 r5 r6 r7 r8 r9 r10 r11 r12 r13 r14 f0 f1 f2 f3 f4 f5 f6 f7 f8 f9 f10 f11 f12 f13 f14 l1 k1 k3
        go_wp2
        refine bodyPost_ret (v := .tuple #[stV q2 s', .int .i64 e']) (results_S rfl _ _ _ 28 (stL q2 s') _ rfl HRW.out Tryd.underlying28 rfl 15 infoSt rfl _ rfl) rfl ?_
        exact ⟨q2, rfl, HQ.out.mono (by omega), HB6.out⟩
end Go.Proofs.YtfkkmlgblhnkaaaDoor
