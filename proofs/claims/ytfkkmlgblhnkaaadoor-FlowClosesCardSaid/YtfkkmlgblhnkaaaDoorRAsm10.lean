
/- nostosref10: Up, Patch, Comma. -/
import Derived.Test.YtfkkmlgblhnkaaaDoorAsm10
namespace Go.Proofs.YtfkkmlgblhnkaaaDoor
open Go.RowKit

theorem upR_step {a : Int} (h : a % 8 ≠ 0) : upR (wrap64 (a + 1)) = upR a := by
  unfold upR wrap64
  omega
theorem upR_at {a : Int} (h0 : -9223372036854775808 ≤ a) (h1 : a ≤ 9223372036854775807) (h : a % 8 = 0) : upR a = a := by
  unfold upR wrap64
  omega

set_option maxHeartbeats 1000000 in
theorem RPatch_any (q : Ad) (s : Ps) (at_ v : Int) (s' : Ps) (er : Int) (w : World) (hs : patchS s at_ v = s') (he : patchE s at_ = er) (hp : RdP w q s) (hl : s.mem.length ≤ 140737488355328) :
    Calls Tryd.prog 26 #[stV q s, .int .i64 at_, .int .i64 v] w fun e w' => ∃ q', e = .returned (.tuple #[stV q' s', .int .i64 er]) ∧ Res w.heap.size q s w' q' s' ∧ Below w.heap.size w w' := by
  have HP := Lib.hid hp
  have HB0 := Lib.hid (below_two (below_lit w (.cells (stL q s).toArray 28)) (below_lit _ (.cells (stL nilA zeroP).toArray 28)))
  have HM := Lib.hid (hp.mem.below HB0.out)
  have HS := Lib.hid hs
  have HE := Lib.hid (show cellE s.mem.length at_ = er from he)
  clear hp hs he
  rw [stV_eq q s]
  go_enter Tryd.func26, Tryd.ntmps26
  go_wp2_with fail
  refine (RefSetCell_any q.m q.mc at_ v s.mem _ HM.out HP.out.memB hl).mono ?_
  rintro e w1 ⟨x, rfl, ho, hb⟩
  rw [HE.out]
  have HG : Hid (Bx w1 w.heap.size 28 (stL q s)) := Lib.hid (((Bx.new w _ _ _ _ rfl rfl).alloc _).below hb)
  have HR : Hid (Bx w1 (w.heap.size + 1) 28 (stL nilA zeroP)) := Lib.hid ((Bx.new _ _ _ _ _ (by simp) rfl).below hb)
  have HB1 := Lib.hid (below_two HB0.out hb)
  obtain ⟨A', c', rfl, hrd⟩ := Rd.own ho
  have HD := Lib.hid ho
  clear ho hb hrd
  by_cases he : er = 0
  · subst he
    have hs2 : s' = { s with mem := setC s.mem at_ v } := by rw [← HS.out, patchS, if_pos HE.out]
    obtain ⟨m', hm'⟩ : ∃ m', setC s.mem at_ v = m' := ⟨_, rfl⟩
    rw [hm'] at HD hs2 ⊢
    have HM' := Lib.hid (show isB m' by rw [← hm']; exact setC_isB HP.out.memB)
    have HS2 := Lib.hid hs2
    clear hm' hs2
    go_wp2_with (refine wp_storeF rfl 22 _ _ rfl w.heap.size 0 _ rfl rfl rfl 28 (stL q s) HG.out 15 rfl (by decide) info1m ?_)
    intro w2 hg2 hw2
    have HG2 : Hid (Bx w2 w.heap.size 28 (stL { q with m := A', mc := c' } s')) := Lib.hid (by rw [HS2.out]; exact hg2)
    have HR2 := Lib.hid (HR.out.grown hw2 (by omega))
    have HB2 := Lib.hid (below_grown HB1.out HB1.out.size hw2 (Nat.le_refl _))
    have HD2 := Lib.hid (own_keep HD.out hw2 (by simp; omega))
    clear hg2 hw2
    go_wp2_with (first
      | (refine wp_loadS rfl 28 _ rfl w.heap.size rfl 28 (stL { q with m := A', mc := c' } s') _ HG2.out Tryd.underlying28 rfl 15 infoSt rfl ?_)
      | (refine wp_storeS rfl 28 _ _ rfl (w.heap.size + 1) (stL { q with m := A', mc := c' } s') rfl rfl 28 _ HR2.out 15 infoSt rfl rfl rfl ?_))
    intro w3 hr3 hw3
    have HR3 := Lib.hid hr3
    have HB3 := Lib.hid (below_grown HB2.out HB2.out.size hw3 (by omega))
    have HD3 := Lib.hid (own_keep HD2.out hw3 (by simp))
    clear hr3 hw3
    go_wp2
    refine bodyPost_ret (v := .tuple #[stV { q with m := A', mc := c' } s', .int .i64 0]) (results_S Tryd.results26 _ _ _ 28 _ _ rfl HR3.out Tryd.underlying28 rfl 15 infoSt rfl _ rfl) rfl ?_
    refine ⟨_, rfl, ?_, HB3.out⟩
    rw [HS2.out]
    exact ((Res.same w.heap.size HP.out).below HB3.out).withMem (own_rd HD3.out) HM'.out (own_block_ge (own_mono HD3.out (by simp; omega)))
  · have hs2 : s' = zeroP := by rw [← HS.out, patchS, if_neg (by rw [HE.out]; exact he)]
    have b1 : (er != 0) = true := by simpa using he
    subst hs2
    clear he
    go_wp2_with (refine wp_storeS rfl 28 _ _ rfl (w.heap.size + 1) (stL nilA zeroP) rfl rfl 28 _ HR.out 15 infoSt rfl rfl rfl ?_)
    intro w3 hr3 hw3
    have HR3 := Lib.hid hr3
    have HB3 := Lib.hid (below_grown HB1.out HB1.out.size hw3 (by omega))
    clear hr3 hw3
    go_wp2
    refine bodyPost_ret (v := .tuple #[stV nilA zeroP, .int .i64 er]) (results_S Tryd.results26 _ _ _ 28 _ _ rfl HR3.out Tryd.underlying28 rfl 15 infoSt rfl _ rfl) rfl ?_
    exact ⟨_, rfl, Res.zero _ _ _ _, HB3.out⟩

set_option maxHeartbeats 2000000 in
theorem RComma_any (q : Ad) (s : Ps) (v : Int) (s' : Ps) (er : Int) (w : World) (hs : commaS s v = s') (he : commaE s = er) (hp : RdP w q s) (hl : s.mem.length ≤ 140737488355328) :
    Calls Tryd.prog 59 #[stV q s, .int .i64 v] w fun e w' => ∃ q', e = .returned (.tuple #[stV q' s', .int .i64 er]) ∧ Res w.heap.size q s w' q' s' ∧ Below w.heap.size w w' := by
  have HB0 := Lib.hid (below_two (below_lit w (.cells (stL q s).toArray 28)) (below_lit _ (.cells (stL nilA zeroP).toArray 28)))
  have HP := Lib.hid (hp.below HB0.out)
  have HPw := Lib.hid hp
  have HS := Lib.hid hs
  have HE := Lib.hid he
  clear hp hs he
  by_cases hfull : (s.mem.length : Int) - 8 < s.here
  · obtain rfl : er = -8 := by rw [← HE.out, commaE, if_pos hfull]
    obtain rfl : s' = zeroP := by rw [← HS.out, commaS, HE.out]; rfl
    have HR : Hid (Bx ((w.alloc (.cells (stL q s).toArray 28)).alloc (.cells (stL nilA zeroP).toArray 28)) (w.heap.size + 1) 28 (stL nilA zeroP)) := Lib.hid (Bx.new _ _ _ _ _ (by simp) rfl)
    rw [stV_eq q s]
    go_enter Tryd.func59, Tryd.ntmps59
    go_wp2_with (refine wp_storeS rfl 28 _ _ rfl (w.heap.size + 1) (stL nilA zeroP) rfl rfl 28 _ HR.out 15 infoSt rfl rfl rfl ?_)
    intro w3 hr3 hw3
    have HR3 := Lib.hid hr3
    have HB3 := Lib.hid (below_grown HB0.out HB0.out.size hw3 (by omega))
    clear hr3 hw3
    go_wp2
    refine bodyPost_ret (v := .tuple #[stV nilA zeroP, .int .i64 (-8)]) (results_S Tryd.results59 _ _ _ 28 _ _ rfl HR3.out Tryd.underlying28 rfl 15 infoSt rfl _ rfl) rfl ?_
    exact ⟨_, rfl, Res.zero _ _ _ _, HB3.out⟩
  · have HE2 := Lib.hid (show patchE s s.here = er by have := HE.out; rw [commaE, if_neg hfull] at this; exact this)
    rw [stV_eq q s]
    go_enter Tryd.func59, Tryd.ntmps59
    have HG0 : Hid (Bx ((w.alloc (.cells (stL q s).toArray 28)).alloc (.cells (stL nilA zeroP).toArray 28)) w.heap.size 28 (stL q s)) := Lib.hid ((Bx.new w _ _ _ _ rfl rfl).alloc _)
    go_wp2_with (refine wp_loadS rfl 28 _ rfl w.heap.size rfl 28 (stL q s) _ HG0.out Tryd.underlying28 rfl 15 infoSt rfl ?_)
    refine (RPatch_any q s s.here v _ er _ rfl HE2.out HP.out hl).mono ?_
    rintro e w1 ⟨q1, rfl, hp1, hb⟩
    have HG := Lib.hid (HG0.out.below hb)
    have HR : Hid (Bx w1 (w.heap.size + 1) 28 (stL nilA zeroP)) := Lib.hid ((Bx.new _ _ _ _ _ (by simp) rfl).below hb)
    have HB1 := Lib.hid (below_two HB0.out hb)
    have HP1 := Lib.hid (hp1.mono (by simp : w.heap.size + 2 ≤ _))
    clear hb hp1
    have HF := Lib.hid hfull
    clear hfull
    have HT1 : Hid (Bx (w1.alloc (.cells (stL nilA zeroP).toArray 28)) w1.heap.size 28 (stL nilA zeroP)) := Lib.hid (Bx.new w1 _ _ _ _ rfl rfl)
    have HGT := Lib.hid (HG.out.alloc (.cells (stL nilA zeroP).toArray 28))
    have HRT := Lib.hid (HR.out.alloc (.cells (stL nilA zeroP).toArray 28))
    have HBT := Lib.hid (below_lit w1 (.cells (stL nilA zeroP).toArray 28))
    have hw1 : w.heap.size + 2 ≤ w1.heap.size := HR.out.lt
    go_wp2_with (refine wp_storeS rfl 28 _ _ rfl w1.heap.size (stL q1 (patchS s s.here v)) rfl rfl 28 _ HT1.out 15 infoSt rfl rfl rfl ?_)
    intro w2 ht2 hw2
    have HT2 := Lib.hid ht2
    have HG2 := Lib.hid (HGT.out.grown hw2 (by omega))
    have HR2 := Lib.hid (HRT.out.grown hw2 (by omega))
    have HK2 := Lib.hid (below_grown HBT.out HBT.out.size hw2 (Nat.le_refl _))
    clear ht2 hw2 HT1 HGT HRT HBT HG HR
    by_cases h0 : er = 0
    · subst h0
      have e1 : s' = { patchS s s.here v with here := s.here + 8 } := by rw [← HS.out, commaS_ok HE.out]
      have hr := cellE_zero HE2.out
      have HF2 := Lib.hid HF.out
      generalize patchS s s.here v = s1 at *
      have h8 : w2.cell? ⟨w.heap.size, 8, none⟩ = some (.int .i64 s.here) := by rw [HG2.out.cell 8]; rfl
      have HE1 := Lib.hid e1
      clear e1
      go_wp2_with (refine wp_storeF rfl 3 _ _ rfl w1.heap.size 8 _ rfl rfl rfl 28 _ HT2.out 15 rfl (by decide) info1i ?_)
      intro w3 hg3 hw3
      have HT3 : Hid (Bx w3 w1.heap.size 28 (stL q1 s')) := Lib.hid (by rw [HE1.out]; exact hg3)
      have HR3 := Lib.hid (HR2.out.grown hw3 (by omega))
      have HK3 := Lib.hid (below_grown HK2.out HK2.out.size hw3 (Nat.le_refl _))
      clear hg3 hw3 h8
      have HP3 := Lib.hid (HP1.out.below HK3.out)
      have HB3 := Lib.hid (below_two HB1.out HK3.out)
      go_wp2_with (first
        | (refine wp_loadS rfl 28 _ rfl w1.heap.size rfl 28 (stL q1 s') _ HT3.out Tryd.underlying28 rfl 15 infoSt rfl ?_)
        | (refine wp_storeS rfl 28 _ _ rfl (w.heap.size + 1) (stL q1 s') rfl rfl 28 _ HR3.out 15 infoSt rfl rfl rfl ?_))
      intro w4 hr4 hw4
      have HR4 := Lib.hid hr4
      have HB4 := Lib.hid (below_grown HB3.out HB3.out.size hw4 (by omega))
      have HP4 := Lib.hid (HP3.out.grown HPw.out hw4 (by omega) (by omega))
      clear hr4 hw4
      go_wp2
      refine bodyPost_ret (v := .tuple #[stV q1 s', .int .i64 0]) (results_S Tryd.results59 _ _ _ 28 _ _ rfl HR4.out Tryd.underlying28 rfl 15 infoSt rfl _ rfl) rfl ?_
      refine ⟨_, rfl, ?_, HB4.out⟩
      rw [HE1.out]
      exact (HP4.out.withHere _).mono (by omega)
    · have b1 : (er != 0) = true := by simpa using h0
      have e1 : s' = zeroP := by rw [← HS.out, commaS_no (by rw [HE.out]; exact h0)]
      subst e1
      have HB3 := Lib.hid (below_two HB1.out HK2.out)
      clear h0
      go_wp2_with (refine wp_storeS rfl 28 _ _ rfl (w.heap.size + 1) (stL nilA zeroP) rfl rfl 28 _ HR2.out 15 infoSt rfl rfl rfl ?_)
      intro w4 hr4 hw4
      have HR4 := Lib.hid hr4
      have HB4 := Lib.hid (below_grown HB3.out HB3.out.size hw4 (by omega))
      clear hr4 hw4
      go_wp2
      refine bodyPost_ret (v := .tuple #[stV nilA zeroP, .int .i64 er]) (results_S Tryd.results59 _ _ _ 28 _ _ rfl HR4.out Tryd.underlying28 rfl 15 infoSt rfl _ rfl) rfl ?_
      exact ⟨_, rfl, Res.zero _ _ _ _, HB4.out⟩
end Go.Proofs.YtfkkmlgblhnkaaaDoor
