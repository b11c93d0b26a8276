
/- nostosref11.Do, the word 99. Printed by genrdo.py. -/
import Derived.Test.YtfkkmlgblhnkaaaDoorRDoB
namespace Go.Proofs.YtfkkmlgblhnkaaaDoor
open Go.RowKit

set_option maxRecDepth 100000 in
set_option maxHeartbeats 8000000 in
theorem RDo_99 (q : Ad) (s s' : Ps) (e' : Int) (w : World) (hr : refF s [1] (some [3, 0]) (some (topA s)) 2 (fun c _ => [1, c]) = (s', e', true)) (hp : RdP w q s) (hz : Sz s 100000) :
    Calls Tryd.prog 11 #[stV q s, .int .i64 99] w fun r w' => ∃ q', r = .returned (.tuple #[stV q' s', .int .i64 e', .bool true]) ∧ Res w.heap.size q s w' q' s' ∧ Below w.heap.size w w' := by
  obtain ⟨hzm, hzs, hzc⟩ := hz
  have hcap := hp.ctl.cap
  have hle := hp.ctl.le
  unfold maxLen at hcap
  have HHR := Lib.hid hr
  have HPw := Lib.hid hp
  obtain ⟨W0, hW0⟩ : ∃ W0, (w.alloc (.cells (stL q s).toArray 28)).alloc (.cells (stL nilA zeroP).toArray 28) = W0 := ⟨_, rfl⟩
  have HB0 : Hid (Below w.heap.size w W0) := Lib.hid (by rw [← hW0]; exact below_two (below_lit w _) (below_lit _ _))
  have HG0 : Hid (Bx W0 w.heap.size 28 (stL q s)) := Lib.hid (by rw [← hW0]; exact (Bx.new w _ _ _ _ rfl rfl).alloc _)
  have HR0 : Hid (Bx W0 (w.heap.size + 1) 28 (stL nilA zeroP)) := Lib.hid (by rw [← hW0]; exact Bx.new _ _ _ _ _ (by simp) rfl)
  have hW0' : (w.alloc (.cells #[.slice q.m s.mem.length q.mc, .slice q.d s.data.length q.dc, .slice q.r s.ret.length q.rc, .slice q.c s.ctl.length q.cc, .slice q.w s.words.length q.wc, .slice q.s s.spots.length q.sc, .slice q.o s.out.length q.oc, .int .i64 s.ip, .int .i64 s.here, .int .i64 s.pos, .int .i64 s.tok, .int .i64 s.inp, .int .i64 s.err, .bool s.comp, .bool s.halt] 28)).alloc (.cells #[.slice none 0 0, .slice none 0 0, .slice none 0 0, .slice none 0 0, .slice none 0 0, .slice none 0 0, .slice none 0 0, .int .i64 0, .int .i64 0, .int .i64 0, .int .i64 0, .int .i64 0, .int .i64 0, .bool false, .bool false] 28) = W0 := hW0
  clear hp hr
  rw [stV_eq q s]
  go_enter Tryd.func11, Tryd.ntmps11
  go_wp2_with fail
  try rw [hW0']
  clear hW0 hW0'
  obtain ⟨KB, hKB⟩ : ∃ n, W0.heap.size = n := ⟨_, rfl⟩
  have hwk := wants_99 W0
  rw [hKB] at hwk
  refine hwk.mono ?_
  clear hwk
  rintro r w1 ⟨rfl, hw1⟩
  have hb1 : Below W0.heap.size W0 w1 := by rw [hw1]; exact below_lit W0 _
  have HK1 : Hid (Rd w1 (some ⟨KB, 0, none⟩) 1 1 1 (nums .i64 [1])) := Lib.hid (by rw [hw1, ← hKB]; exact rd_alloc W0 (nums .i64 [1]) _ _ (0, 0) 1 1 1 rfl rfl (by decide) (by decide))
  clear hw1 hKB
  have HG1 := Lib.hid (HG0.out.below hb1)
  have HR1 := Lib.hid (HR0.out.below hb1)
  have HB1 := Lib.hid (below_two HB0.out hb1)
  clear hb1 HG0 HR0 HB0
  obtain ⟨A, hA⟩ : ∃ A, q.c = A := ⟨_, rfl⟩
  obtain ⟨n, hn⟩ : ∃ n, s.ctl.length = n := ⟨_, rfl⟩
  have c3 : w1.cell? ⟨w.heap.size, 3, none⟩ = some (.slice A n q.cc) := by rw [← hA, ← hn]; exact HG1.out.cell 3
  have hct1 : Rd w1 A n q.cc 1 (nums .i64 s.ctl) := by rw [← hA, ← hn]; exact (HPw.out.below HB1.out).ctl
  have HCT1 := Lib.hid hct1
  rw [hn] at hzc hle
  have HN := Lib.hid hn
  have HA := Lib.hid hA
  obtain ⟨b, hb⟩ : ∃ b, hasR s.ctl [1] = b := ⟨_, rfl⟩
  have HHB := Lib.hid hb
  clear hn hA hct1
  go_wp2_with fail
  refine (Has_any A q.cc n s.ctl (some ⟨KB, 0, none⟩) 1 1 [1] b w1 HN.out rfl HHB.out HCT1.out HK1.out (by omega) (by decide)).mono ?_
  rintro r w2 ⟨rfl, hb2⟩
  have c3 : w2.cell? ⟨w.heap.size, 3, none⟩ = some (.slice A n q.cc) := (hb2.cell HG1.out.lt).trans c3
  have HG2 := Lib.hid (HG1.out.below hb2)
  have HR2 := Lib.hid (HR1.out.below hb2)
  have HB2 := Lib.hid (below_two HB1.out hb2)
  have HCT2 := Lib.hid (HCT1.out.below hb2)
  clear hb2 HG1 HR1 HB1 HCT1 HK1
  cases b with
  | false =>
    have hq := HHR.out
    rw [refF_miss HHB.out] at hq
    injection hq with hq1 hq2
    injection hq2 with hq2 hq3
    subst hq1 hq2
    clear hq3
    go_wp2_with (refine wp_storeS rfl 28 _ _ rfl (w.heap.size + 1) (stL nilA zeroP) rfl rfl 28 _ HR2.out 15 infoSt rfl rfl rfl ?_)
    intro wz hgz hwz
    have HRz := Lib.hid hgz
    have HBz := Lib.hid (below_grown HB2.out HB2.out.size hwz (by omega))
    clear hgz hwz
    go_wp2
    refine bodyPost_ret (results_S3 rfl _ _ (w.heap.size + 1) 28 (stL nilA zeroP) _ rfl HRz.out Tryd.underlying28 rfl 15 infoSt rfl _ _ rfl rfl) rfl ?_
    exact ⟨nilA, rfl, Res.zero _ _ _ _, HBz.out⟩
  | true =>
    have hlen : 2 ≤ n := by
      have h := HHB.out
      unfold hasR at h
      have h := (of_decide_eq_true h).1
      rw [HN.out] at h
      simpa using h
    obtain ⟨j, hj⟩ : ∃ j, n - 2 = j := ⟨_, rfl⟩
    have eJ : (n : Int) - 2 = (j : Int) := by omega
    have hjn : j ≤ q.cc := by omega
    obtain ⟨ad, rfl, e1⟩ := RdI.at_ (xs := s.ctl) (j := n - 1) (by rw [RdI, HN.out]; exact HCT2.out) (by rw [HN.out]; omega)
    obtain ⟨K1, hK1⟩ : ∃ K1, n - 1 = K1 := ⟨_, rfl⟩
    obtain ⟨y, hy⟩ : ∃ y, s.ctl.getD K1 0 = y := ⟨_, rfl⟩
    rw [hK1, hy] at e1
    have HY : Hid (topA s = y) := Lib.hid (by unfold topA; rw [HN.out, hK1]; exact hy)
    have eK1 : (n : Int) - 1 = (K1 : Int) := by omega
    have b1 : (0 : Int) ≤ (K1 : Int) := by omega
    have b2 : (K1 : Int) < (n : Int) := by omega
    have hsl := fun w => sl_h64 (some ad) n q.cc j w hjn
    have HJ := Lib.hid hj
    clear hj hlen hK1 hy
    go_wp2_with fail
    obtain ⟨OB, hOB⟩ : ∃ n, w2.heap.size = n := ⟨_, rfl⟩
    have hok := opened_99 0 0 0 w2
    rw [hOB] at hok
    refine hok.mono ?_
    clear hok
    rintro r w3 ⟨rfl, hw3⟩
    have hb3 : Below w2.heap.size w2 w3 := by rw [hw3]; exact below_lit w2 _
    clear hw3 hOB
    have HG3 := Lib.hid (HG2.out.below hb3)
    have HR3 := Lib.hid (HR2.out.below hb3)
    have HB3 := Lib.hid (below_two HB2.out hb3)
    clear hb3 HG2 HR2 HB2 HCT2 c3 e1
    by_cases hov : 128 < j + 2
    · have hd : (128 : Int) < (j : Int) + 2 := by omega
      have hd2 : (j : Int) + 2 > 128 := hd
      have hq := HHR.out
      rw [refF_over HHB.out ⟨by decide, by rw [HN.out]; have := HJ.out; simp; omega⟩] at hq
      injection hq with hq1 hq2
      injection hq2 with hq2 hq3
      subst hq1 hq2
      clear hq3
      go_wp2_with (refine wp_storeS rfl 28 _ _ rfl (w.heap.size + 1) (stL nilA zeroP) rfl rfl 28 _ HR3.out 15 infoSt rfl rfl rfl ?_)
      intro wz hgz hwz
      have HRz := Lib.hid hgz
      have HBz := Lib.hid (below_grown HB3.out HB3.out.size hwz (by omega))
      clear hgz hwz
      go_wp2
      refine bodyPost_ret (results_S3 rfl _ _ (w.heap.size + 1) 28 (stL nilA zeroP) _ rfl HRz.out Tryd.underlying28 rfl 15 infoSt rfl _ _ rfl rfl) rfl ?_
      exact ⟨nilA, rfl, Res.zero _ _ _ _, HBz.out⟩
    have HNO : Hid (¬ (0 < 2 ∧ 128 < s.ctl.length - 2 * ([1] : List Int).length + 2)) := Lib.hid (by rw [HN.out]; have := HJ.out; simp; omega)
    have hd : ¬ (128 : Int) < (j : Int) + 2 := by omega
    obtain ⟨TB, hTB⟩ : ∃ n, w3.heap.size = n := ⟨_, rfl⟩
    have hBT := HB3.out.size
    have hRT := HR3.out.lt
    rw [hTB] at hRT
    have HT3 : Hid (Bx (w3.alloc (.cells (stL nilA zeroP).toArray 28)) TB 28 (stL nilA zeroP)) := Lib.hid (Bx.new w3 _ _ _ _ hTB rfl)
    have HG3' := Lib.hid (HG3.out.alloc (.cells (stL nilA zeroP).toArray 28))
    have HR3' := Lib.hid (HR3.out.alloc (.cells (stL nilA zeroP).toArray 28))
    have HB3' : Hid (Below w.heap.size w (w3.alloc (.cells (stL nilA zeroP).toArray 28))) := Lib.hid (below_two HB3.out (below_lit w3 _))
    go_wp2_with (first
      | (refine wp_loadS rfl 28 _ rfl w.heap.size rfl 28 (stL q s) _ HG3.out Tryd.underlying28 rfl 15 infoSt rfl ?_)
      | ((try rw [hTB]); refine wp_storeS rfl 28 _ _ rfl TB (stL q s) rfl rfl 28 _ HT3.out 15 infoSt rfl rfl rfl ?_))
    intro w4 hg4 hw4
    have hT4 : TB < w4.heap.size := hg4.lt
    have HT4 := Lib.hid hg4
    have HG4 := Lib.hid (HG3'.out.grown hw4 (by omega))
    have HR4 := Lib.hid (HR3'.out.grown hw4 (by omega))
    have HB4 := Lib.hid (below_grown HB3'.out (by have := HB3'.out.size; omega) hw4 (by omega))
    clear hg4 hw4 HT3 HG3 HG3' HR3 HR3' HB3 HB3' hTB
    go_wp2_with fail
    obtain ⟨LB, hLB⟩ : ∃ n, w4.heap.size = n := ⟨_, rfl⟩
    have hlk := laid_99 (y) w4
    rw [hLB] at hlk
    refine hlk.mono ?_
    clear hlk
    rintro r w5 ⟨rfl, hw5⟩
    have hb5 : Below w4.heap.size w4 w5 := by rw [hw5]; exact below_lit w4 _
    have HL5 : Hid (RdI w5 .i64 (some ⟨LB, 0, none⟩) 2 [3, 0]) := Lib.hid (by rw [hw5, ← hLB]; exact rd_alloc w4 (nums .i64 [3, 0]) _ _ (0, 0) 2 2 1 rfl rfl (by decide) (by decide))
    have HT5 := Lib.hid (HT4.out.below hb5)
    have HG5 := Lib.hid (HG4.out.below hb5)
    have HR5 := Lib.hid (HR4.out.below hb5)
    have HB5 := Lib.hid (below_two HB4.out hb5)
    have hT5 : TB < w5.heap.size := HT5.out.lt
    clear hb5 hw5 hLB HT4 HG4 HR4 HB4
    obtain ⟨s1, hs1⟩ : ∃ s1, emitS s [3, 0] = s1 := ⟨_, rfl⟩
    obtain ⟨er, her⟩ : ∃ er, emitE s [3, 0] = er := ⟨_, rfl⟩
    have HS1 := Lib.hid hs1
    have HE1 := Lib.hid her
    have HEO : Hid (emitO s (some [3, 0]) = (s1, er)) := Lib.hid (by rw [emitO_some her, hs1])
    have hm1 : s1.mem.length ≤ 1000000 := by have := (emitS_sz [3, 0] (s := s) (k := 100000) ⟨hzm, hzs, by rw [HN.out]; exact hzc⟩).1; rw [hs1] at this; exact this
    clear hs1 her
    go_wp2_with (refine wp_loadS rfl 28 _ rfl w.heap.size rfl 28 (stL q s) _ HG5.out Tryd.underlying28 rfl 15 infoSt rfl ?_)
    refine (REmit_any q s (some ⟨LB, 0, none⟩) 2 2 [3, 0] s1 er w5 rfl HS1.out HE1.out (HPw.out.below HB5.out) HL5.out (by omega) (by omega)).mono ?_
    rintro r w6 ⟨q1, rfl, hres, hb6⟩
    obtain ⟨T2, hT2⟩ : ∃ n, w6.heap.size = n := ⟨_, rfl⟩
    have HT6 := Lib.hid (HT5.out.below hb6)
    have HR6 := Lib.hid (HR5.out.below hb6)
    have HB6 := Lib.hid (below_two HB5.out hb6)
    have HQ6 : Hid (Res (TB + 1) q s w6 q1 s1) := Lib.hid (hres.mono hT5)
    have hT6 : TB < T2 := by rw [← hT2]; exact HT6.out.lt
    clear hres hb6 HT5 HG5 HR5 HB5 HL5
    have HD6 : Hid (Bx (w6.alloc (.cells (stL nilA zeroP).toArray 28)) T2 28 (stL nilA zeroP)) := Lib.hid (Bx.new w6 _ _ _ _ hT2 rfl)
    have HT6' := Lib.hid (HT6.out.alloc (.cells (stL nilA zeroP).toArray 28))
    have HR6' := Lib.hid (HR6.out.alloc (.cells (stL nilA zeroP).toArray 28))
    have HB6' : Hid (Below w.heap.size w (w6.alloc (.cells (stL nilA zeroP).toArray 28))) := Lib.hid (below_two HB6.out (below_lit w6 _))
    have HQ6' : Hid (Res (TB + 1) q s (w6.alloc (.cells (stL nilA zeroP).toArray 28)) q1 s1) := Lib.hid (HQ6.out.below (below_lit w6 _))
    have HLI : Hid (Lies q1 s1 (fun b => b ≠ T2)) := Lib.hid (HQ6.out.rd.lies.mono (fun b h => by omega))
    go_wp2_with ((try rw [hT2]); refine wp_storeS rfl 28 _ _ rfl T2 (stL q1 s1) rfl rfl 28 _ HD6.out 15 infoSt rfl rfl rfl ?_)
    intro w7 hg7 hw7
    have HD7 := Lib.hid hg7
    have HT7 := Lib.hid (HT6'.out.grown hw7 (by omega))
    have HR7 := Lib.hid (HR6'.out.grown hw7 (by omega))
    have HB7 := Lib.hid (below_grown HB6'.out (by have := HB6'.out.size; omega) hw7 (by omega))
    have HQ7 := Lib.hid (HQ6'.out.grown' HLI.out hw7)
    clear hg7 hw7 hT2 HD6 HT6 HT6' HR6 HR6' HB6 HB6' HQ6 HQ6' HLI
    by_cases he1 : er ≠ 0
    · have bE : (er != 0) = true := by simpa using he1
      have hq := HHR.out
      rw [refF_emit HHB.out HNO.out HEO.out he1] at hq
      injection hq with hq1 hq2
      injection hq2 with hq2 hq3
      subst hq1 hq2
      clear hq3
      go_wp2_with (refine wp_storeS rfl 28 _ _ rfl (w.heap.size + 1) (stL nilA zeroP) rfl rfl 28 _ HR7.out 15 infoSt rfl rfl rfl ?_)
      intro wz hgz hwz
      have HRz := Lib.hid hgz
      have HBz := Lib.hid (below_grown HB7.out HB7.out.size hwz (by omega))
      clear hgz hwz
      go_wp2
      refine bodyPost_ret (results_S3 rfl _ _ (w.heap.size + 1) 28 (stL nilA zeroP) _ rfl HRz.out Tryd.underlying28 rfl 15 infoSt rfl _ _ rfl rfl) rfl ?_
      exact ⟨nilA, rfl, Res.zero _ _ _ _, HBz.out⟩
    have he1 : er = 0 := Decidable.not_not.1 he1
    subst he1
    go_wp2_with (first
      | (refine wp_loadS rfl 28 _ rfl T2 rfl 28 (stL q1 s1) _ HD7.out Tryd.underlying28 rfl 15 infoSt rfl ?_)
      | (refine wp_storeS rfl 28 _ _ rfl TB (stL q1 s1) rfl rfl 28 _ HT7.out 15 infoSt rfl rfl rfl ?_))
    intro w8 hg8 hw8
    have HT8 := Lib.hid hg8
    have HR8 := Lib.hid (HR7.out.grown hw8 (by omega))
    have HB8 := Lib.hid (below_grown HB7.out HB7.out.size hw8 (by omega))
    have HQ8 : Hid (Res (TB + 1) q s w8 q1 s1) := Lib.hid (HQ7.out.grown HPw.out hw8 (by omega) (by omega))
    clear hg8 hw8 HD7 HT7 HR7 HB7 HQ7
    go_wp2_with fail
    refine (settled_99 (y) (0) w8).mono ?_
    rintro r w8' ⟨rfl, hw8⟩
    subst hw8
    obtain ⟨h8, hh8⟩ : ∃ h, s1.here = h := ⟨_, rfl⟩
    have c8 : w8'.cell? ⟨TB, 8, none⟩ = some (.int .i64 h8) := by rw [← hh8]; exact HT8.out.cell 8
    obtain ⟨s2, hs2⟩ : ∃ s2, patchS s1 y s1.here = s2 := ⟨_, rfl⟩
    obtain ⟨er2, her2⟩ : ∃ er, patchE s1 y = er := ⟨_, rfl⟩
    have HPO : Hid (patchO s1 (some (topA s)) = (s2, er2)) := Lib.hid (by rw [HY.out, patchO_some her2, hs2])
    have HS2 : Hid (patchS s1 y h8 = s2) := Lib.hid (by rw [← hh8]; exact hs2)
    have HE2 := Lib.hid her2
    have hT8 : TB < w8'.heap.size := HT8.out.lt
    clear hs2 her2 hh8
    go_wp2_with (refine wp_loadS rfl 28 _ rfl TB rfl 28 (stL q1 s1) _ HT8.out Tryd.underlying28 rfl 15 infoSt rfl ?_)
    refine (RPatch_any q1 s1 y h8 s2 er2 w8' HS2.out HE2.out HQ8.out.rd (by omega)).mono ?_
    rintro r w9 ⟨q2, rfl, hres, hb9⟩
    obtain ⟨T3, hT3⟩ : ∃ n, w9.heap.size = n := ⟨_, rfl⟩
    have HT9 := Lib.hid (HT8.out.below hb9)
    have HR9 := Lib.hid (HR8.out.below hb9)
    have HB9 := Lib.hid (below_two HB8.out hb9)
    have HQ9 : Hid (Res (TB + 1) q s w9 q2 s2) := Lib.hid (HQ8.out.trans hres (by omega))
    have hT9 : TB < T3 := by rw [← hT3]; exact HT9.out.lt
    clear hres hb9 HT8 HR8 HB8 HQ8 c8
    have HD9 : Hid (Bx (w9.alloc (.cells (stL nilA zeroP).toArray 28)) T3 28 (stL nilA zeroP)) := Lib.hid (Bx.new w9 _ _ _ _ hT3 rfl)
    have HT9' := Lib.hid (HT9.out.alloc (.cells (stL nilA zeroP).toArray 28))
    have HR9' := Lib.hid (HR9.out.alloc (.cells (stL nilA zeroP).toArray 28))
    have HB9' : Hid (Below w.heap.size w (w9.alloc (.cells (stL nilA zeroP).toArray 28))) := Lib.hid (below_two HB9.out (below_lit w9 _))
    have HQ9' : Hid (Res (TB + 1) q s (w9.alloc (.cells (stL nilA zeroP).toArray 28)) q2 s2) := Lib.hid (HQ9.out.below (below_lit w9 _))
    have HLI : Hid (Lies q2 s2 (fun b => b ≠ T3)) := Lib.hid (HQ9.out.rd.lies.mono (fun b h => by omega))
    go_wp2_with ((try rw [hT3]); refine wp_storeS rfl 28 _ _ rfl T3 (stL q2 s2) rfl rfl 28 _ HD9.out 15 infoSt rfl rfl rfl ?_)
    intro w10 hg10 hw10
    have HD10 := Lib.hid hg10
    have HT10 := Lib.hid (HT9'.out.grown hw10 (by omega))
    have HR10 := Lib.hid (HR9'.out.grown hw10 (by omega))
    have HB10 := Lib.hid (below_grown HB9'.out (by have := HB9'.out.size; omega) hw10 (by omega))
    have HQ10 := Lib.hid (HQ9'.out.grown' HLI.out hw10)
    clear hg10 hw10 hT3 HD9 HT9 HT9' HR9 HR9' HB9 HB9' HQ9 HQ9' HLI
    by_cases he2 : er2 ≠ 0
    · have bE2 : (er2 != 0) = true := by simpa using he2
      have hq := HHR.out
      rw [refF_patch HHB.out HNO.out HEO.out HPO.out he2] at hq
      injection hq with hq1 hq2
      injection hq2 with hq2 hq3
      subst hq1 hq2
      clear hq3
      go_wp2_with (refine wp_storeS rfl 28 _ _ rfl (w.heap.size + 1) (stL nilA zeroP) rfl rfl 28 _ HR10.out 15 infoSt rfl rfl rfl ?_)
      intro wz hgz hwz
      have HRz := Lib.hid hgz
      have HBz := Lib.hid (below_grown HB10.out HB10.out.size hwz (by omega))
      clear hgz hwz
      go_wp2
      refine bodyPost_ret (results_S3 rfl _ _ (w.heap.size + 1) 28 (stL nilA zeroP) _ rfl HRz.out Tryd.underlying28 rfl 15 infoSt rfl _ _ rfl rfl) rfl ?_
      exact ⟨nilA, rfl, Res.zero _ _ _ _, HBz.out⟩
    have he2 : er2 = 0 := Decidable.not_not.1 he2
    subst he2
    go_wp2_with (first
      | (refine wp_loadS rfl 28 _ rfl T3 rfl 28 (stL q2 s2) _ HD10.out Tryd.underlying28 rfl 15 infoSt rfl ?_)
      | (refine wp_storeS rfl 28 _ _ rfl TB (stL q2 s2) rfl rfl 28 _ HT10.out 15 infoSt rfl rfl rfl ?_))
    intro V hg11 hw11
    have HTV := Lib.hid hg11
    have HRV := Lib.hid (HR10.out.grown hw11 (by omega))
    have HBV := Lib.hid (below_grown HB10.out HB10.out.size hw11 (by omega))
    have HQV : Hid (Res (TB + 1) q s V q2 s2) := Lib.hid (HQ10.out.grown HPw.out hw11 (by omega) (by omega))
    clear hg11 hw11 HD10 HT10 HR10 HB10 HQ10
    obtain ⟨hh, hhh⟩ : ∃ h, s2.here = h := ⟨_, rfl⟩
    have c8 : V.cell? ⟨TB, 8, none⟩ = some (.int .i64 hh) := by rw [← hhh]; exact HTV.out.cell 8
    have hTV : TB < V.heap.size := HTV.out.lt
    obtain ⟨cw, hcw⟩ : ∃ c, wrap64 (hh - 8) = c := ⟨_, rfl⟩
    have hwc : IntKind.i64.wrap (hh - 8) = cw := by rw [← hcw, IntKind.wrap_i64]; unfold wrap64; rfl
    have HCW := Lib.hid hcw
    clear hcw
    have KB : Hid (∀ w', Below V.heap.size V w' → w'.cell? ⟨TB, 8, none⟩ = some (.int .i64 hh)) := Lib.hid (fun w' hb => (hb.cell hTV).trans c8)
    have HLW : Hid (Rd V (some ad) j q.cc 1 (nums .i64 (s.ctl.take j))) := Lib.hid (by
      have hc := (HPw.out.below HBV.out).ctl
      rw [HA.out] at hc
      have h := RdI.cut hc 0 j q.cc (by rw [HN.out]; omega) hjn (Nat.le_refl _)
      have hz : cutA (some ad) 0 q.cc = (some ad) := by unfold cutA; split <;> simp [Addr.add]
      rw [hz, List.drop_zero, RdI, List.length_take, HN.out, Nat.min_eq_left (by omega)] at h
      exact h)
    have HJ1 : Hid ((s.ctl.take j).length = j) := Lib.hid (by rw [List.length_take, HN.out]; omega)
    have N1 := Lib.hid (nums_one .i64 (s.ctl.take j))
    have HHH := Lib.hid hhh
    clear hhh hsl
    have OA : Hid ((V.alloc (.cells #[] 3)).drew.ownsRow V.heap.size 3 1 (.slice (some ⟨V.heap.size, 0, none⟩) 0 0) 0 []) := Lib.hid (own_below (own_empty (heap_alloc_new _ _) (Nat.le_refl _)) (Below.refl _ _).drew)
    have BA : Hid (Below V.heap.size V (V.alloc (.cells #[] 3)).drew) := Lib.hid (below_lit _ _).drew
    have N2 := Lib.hid (nums_one .i64 [1, cw])
    have OAB : Hid (((V.alloc (.cells #[] 3)).alloc (.cells #[.int .i64 (1), .int .i64 (cw)] 3)).drew.ownsRow V.heap.size 3 1 (.slice (some ⟨V.heap.size, 0, none⟩) 0 0) 0 []) := Lib.hid (own_below (own_below (own_empty (heap_alloc_new V _) (Nat.le_refl _)) (below_lit _ (.cells #[.int .i64 (1), .int .i64 (cw)] 3))) (Below.refl _ _).drew)
    have OBA : Hid (((V.alloc (.cells #[.int .i64 (1), .int .i64 (cw)] 3)).alloc (.cells #[] 3)).drew.ownsRow V.heap.size 3 1 (.slice (some ⟨V.heap.size + 1, 0, none⟩) 0 0) 0 []) := Lib.hid (own_below (by
      have := own_empty (w := (V.alloc (.cells #[.int .i64 (1), .int .i64 (cw)] 3)).alloc (.cells #[] 3)) (B := V.heap.size) (e := 3) (size := 1) (heap_alloc_new (V.alloc (.cells #[.int .i64 (1), .int .i64 (cw)] 3)) _) (by simp)
      rw [show (V.alloc (.cells #[.int .i64 (1), .int .i64 (cw)] 3)).heap.size = V.heap.size + 1 by simp] at this
      exact this) (Below.refl _ _).drew)
    have RAB : Hid (Rd ((V.alloc (.cells #[] 3)).alloc (.cells #[.int .i64 (1), .int .i64 (cw)] 3)).drew (some ⟨V.heap.size + 1, 0, none⟩) 2 2 1 (nums .i64 [1, cw])) := Lib.hid (Rd.below (by
      have := rd_alloc (V.alloc (.cells #[] 3)) (nums .i64 [1, cw]) #[.int .i64 (1), .int .i64 (cw)] 3 (0, 0) 2 2 1 rfl rfl (by decide) (by decide)
      rw [show (V.alloc (.cells #[] 3)).heap.size = V.heap.size + 1 by simp] at this
      exact this) (Below.refl _ _).drew)
    have RBA : Hid (Rd ((V.alloc (.cells #[.int .i64 (1), .int .i64 (cw)] 3)).alloc (.cells #[] 3)).drew (some ⟨V.heap.size, 0, none⟩) 2 2 1 (nums .i64 [1, cw])) := Lib.hid (Rd.below (Rd.below (rd_alloc V (nums .i64 [1, cw]) #[.int .i64 (1), .int .i64 (cw)] 3 (0, 0) 2 2 1 rfl rfl (by decide) (by decide)) (below_lit _ (.cells #[] 3))) (Below.refl _ _).drew)
    have BAB : Hid (Below V.heap.size V ((V.alloc (.cells #[] 3)).alloc (.cells #[.int .i64 (1), .int .i64 (cw)] 3)).drew) := Lib.hid (below_two (below_lit _ _) (below_lit _ _)).drew
    have BBA : Hid (Below V.heap.size V ((V.alloc (.cells #[.int .i64 (1), .int .i64 (cw)] 3)).alloc (.cells #[] 3)).drew) := Lib.hid (below_two (below_lit _ _) (below_lit _ _)).drew
    go_wp2_with fail
    go_region_held_law (fun w' => w'.cell? ⟨TB, 8, none⟩ = some (.int .i64 hh))
      (first
        | assumption
        | exact (World.cell?_setCell_other _ ⟨TB, 3, none⟩ ⟨TB, 8, none⟩ _ (by intro e; have h : (3 : Nat) = 8 := congrArg Addr.off e; omega)).trans (KB.out _ hb2)
        | exact KB.out _ hb2
        | exact KB.out _ hb
        | exact KB.out _ (Below.refl _ _).drew
        | exact KB.out _ (below_lit _ _).drew
        | exact KB.out _ (below_two (below_lit _ _) (below_lit _ _)).drew
        | exact KB.out _ (below_two hb (below_lit _ _)))
      (first
        | (go_at_call 22; refine (opened_99 _ _ _ _).mono ?_; rintro e wc ⟨rfl, rfl⟩)
        | ((refine step_app (w0 := V) rfl (.tmp 130) (.tmp 131) 23 3 _ 1 8 rfl Tryd.underlying23 infoI rfl (by decide) (by decide) V.heap.size _ 0 [] rfl OAB.out (some ad) j q.cc (nums .i64 (s.ctl.take j)) rfl (HLW.out.below BAB.out) N1.out (by omega) BAB.out.size BAB.out ?_); intro v1 w12 ho hb hg; rw [Nat.zero_add, List.nil_append] at ho; have hrl := rd_grownO RAB.out hg (own_ne (by omega)); have hbs := hb.size; clear hg)
        | ((refine step_app (w0 := V) rfl (.tmp 130) (.tmp 131) 23 3 _ 1 8 rfl Tryd.underlying23 infoI rfl (by decide) (by decide) V.heap.size _ 0 [] rfl OBA.out (some ad) j q.cc (nums .i64 (s.ctl.take j)) rfl (HLW.out.below BBA.out) N1.out (by omega) BBA.out.size BBA.out ?_); intro v1 w12 ho hb hg; rw [Nat.zero_add, List.nil_append] at ho; have hrl := rd_grownO RBA.out hg (own_ne (by omega)); have hbs := hb.size; clear hg)
        | ((refine step_app (w0 := V) rfl (.tmp 130) (.tmp 131) 23 3 _ 1 8 rfl Tryd.underlying23 infoI rfl (by decide) (by decide) V.heap.size _ 0 [] rfl OA.out (some ad) j q.cc (nums .i64 (s.ctl.take j)) rfl (HLW.out.below BA.out) N1.out (by omega) BA.out.size BA.out ?_); intro v1 w12 ho hb hg; rw [Nat.zero_add, List.nil_append] at ho; have hbs := hb.size; clear hg)
        | ((refine step_app (w0 := V) rfl (.tmp 132) (.tmp 140) 23 3 _ 1 8 rfl Tryd.underlying23 infoI rfl (by decide) (by decide) V.heap.size _ j (nums .i64 (s.ctl.take j)) rfl ho _ 2 2 (nums .i64 [1, cw]) rfl hrl N2.out (by omega) hb.size hb ?_); intro v2 w13 ho2 hb2 _; clear ho hb; obtain ⟨A2, c2, rfl, hrd⟩ := Rd.own ho2; have g3 : w13.cell? ⟨TB, 3, none⟩ = some (.slice q2.c s2.ctl.length q2.cc) := (HTV.out.below hb2).cell 3; have f3 : w13.frozen? ⟨TB, 3, none⟩ = false := (HTV.out.below hb2).free 3)
        | ((refine step_app (w0 := V) rfl (.tmp 132) (.tmp 140) 23 3 _ 1 8 rfl Tryd.underlying23 infoI rfl (by decide) (by decide) V.heap.size _ j (nums .i64 (s.ctl.take j)) rfl (ho.alloc _) _ 2 2 (nums .i64 [1, cw]) rfl (rd_alloc w12 (nums .i64 [1, cw]) #[.int .i64 (1), .int .i64 (cw)] 3 (0, 0) 2 2 1 rfl rfl (by decide) (by decide)) N2.out (by omega) (hb.alloc hb.size _).size (hb.alloc hb.size _) ?_); intro v2 w13 ho2 hb2 _; clear ho hb; obtain ⟨A2, c2, rfl, hrd⟩ := Rd.own ho2; have g3 : w13.cell? ⟨TB, 3, none⟩ = some (.slice q2.c s2.ctl.length q2.cc) := (HTV.out.below hb2).cell 3; have f3 : w13.frozen? ⟨TB, 3, none⟩ = false := (HTV.out.below hb2).free 3))
    all_goals
      have hx14 : Bx (w13.setCell ⟨TB, 3, none⟩ (.slice A2 (j + 2) c2)) TB 28 ((stL q2 s2).set 3 (.slice A2 (j + 2) c2)) := (HTV.out.below hb2).setc 3 _
      have hg14 := grown_setCell w13 TB 3 (.slice A2 (j + 2) c2)
      generalize w13.setCell ⟨TB, 3, none⟩ (.slice A2 (j + 2) c2) = w14 at *
      have hown := own_keep ho2 hg14 hTV
      clear hrd
      have hrd := own_rd hown
      obtain ⟨L, hL⟩ : ∃ L, s.ctl.take j ++ [1, cw] = L := ⟨_, rfl⟩
      have hLn : L.length = j + 2 := by rw [← hL, List.length_append, HJ1.out]; rfl
      have hcs : nums .i64 (s.ctl.take j) ++ nums .i64 [1, cw] = nums .i64 L := by rw [← hL]; simp [nums]
      have hx15 : Bx w14 TB 28 (stL { q2 with c := A2, cc := c2 } { s2 with ctl := L }) := by
        have h := hx14
        rw [show j + 2 = L.length from hLn.symm] at h
        exact h
      have hrdL : RdI w14 .i64 A2 c2 L := by
        rw [hcs] at hrd
        rw [RdI, hLn]
        exact hrd
      have HTX := Lib.hid hx15
      have HQX : Hid (Res (TB + 1) q s w14 { q2 with c := A2, cc := c2 } { s2 with ctl := L }) := Lib.hid (((HQV.out.below hb2).grown HPw.out hg14 (by omega) (by omega)).withCtl hrdL (fun h0 => own_block_ge (own_mono hown (by omega)) (by rw [← hLn]; exact h0)))
      have HRX := Lib.hid ((HRV.out.below hb2).grown hg14 (by omega))
      have HBX : Hid (Below w.heap.size w w14) := Lib.hid (below_grown (below_two HBV.out hb2) (by have := (below_two HBV.out hb2).size; exact this) hg14 (by omega))
      have HF : Hid (s' = { s2 with ctl := L } ∧ e' = 0) := Lib.hid (by
        have hq := HHR.out
        rw [refF_ok HHB.out HNO.out HEO.out HPO.out] at hq
        injection hq with a b
        injection b with b c
        refine ⟨?_, b.symm⟩
        have e1 : s.ctl.length - 2 * ([1] : List Int).length = j := by rw [HN.out]; exact HJ.out
        rw [← a, ← hL, e1, HHH.out, HCW.out])
      clear hown hrd hL hLn hcs hx15 hrdL ho2 hb2 hx14 hg14 c8 g3 f3 HTV HRV HBV HQV
      obtain ⟨hf1, hf2⟩ := HF.out
      subst hf1 hf2
      go_wp2_with (first
        | (refine wp_loadS rfl 28 _ rfl TB rfl 28 (stL { q2 with c := A2, cc := c2 } { s2 with ctl := L }) _ HTX.out Tryd.underlying28 rfl 15 infoSt rfl ?_)
        | (refine wp_storeS rfl 28 _ _ rfl (w.heap.size + 1) (stL { q2 with c := A2, cc := c2 } { s2 with ctl := L }) rfl rfl 28 _ HRX.out 15 infoSt rfl rfl rfl ?_))
      intro w15 hg15 hw15
      have HRY := Lib.hid hg15
      have HBY := Lib.hid (below_grown HBX.out HBX.out.size hw15 (by omega))
      have HQY : Hid (Res (TB + 1) q s w15 { q2 with c := A2, cc := c2 } { s2 with ctl := L }) := Lib.hid (HQX.out.grown HPw.out hw15 (by omega) (by omega))
      clear hg15 hw15
      go_wp2
      refine bodyPost_ret (results_S3 rfl _ _ (w.heap.size + 1) 28 (stL { q2 with c := A2, cc := c2 } { s2 with ctl := L }) _ rfl HRY.out Tryd.underlying28 rfl 15 infoSt rfl _ _ rfl rfl) rfl ?_
      exact ⟨_, rfl, HQY.out.mono (by omega), HBY.out⟩
end Go.Proofs.YtfkkmlgblhnkaaaDoor
