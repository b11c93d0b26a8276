
/- Package asm: Up, Patch, Comma; and the reference's. -/
import Derived.Test.YtfkkmlgblhnkaaaDoorMB
import Derived.Test.YtfkkmlgblhnkaaaDoorMC
namespace Go.Proofs.YtfkkmlgblhnkaaaDoor
open Go.RowKit

theorem and_8 (m : Nat) (h : m < 18446744073709551616) : m &&& 18446744073709551608 = m / 8 * 8 := by
  have e1 : (18446744073709551608 : Nat) = (2 ^ 61 - 1) * 2 ^ 3 := by decide
  have e2 : m / 8 * 8 = m / 2 ^ 3 * 2 ^ 3 := rfl
  rw [e1, e2]
  apply Nat.eq_of_testBit_eq
  intro i
  rw [Nat.testBit_and, Nat.testBit_mul_two_pow, Nat.testBit_mul_two_pow, Nat.testBit_two_pow_sub_one, Nat.testBit_div_two_pow]
  by_cases h3 : 3 ≤ i
  · by_cases h64 : i - 3 < 61
    · simp [h3, h64, show i - 3 + 3 = i by omega]
    · have : m.testBit i = false := Nat.testBit_lt_two_pow (Nat.lt_of_lt_of_le h (by
        have : 2 ^ 64 ≤ 2 ^ i := Nat.pow_le_pow_right (by omega) (by omega)
        simpa using this))
      simp [h3, h64, this, show i - 3 + 3 = i by omega]
  · simp [h3]
theorem i64_andNot7 (x : Int) (h0 : -9223372036854775808 ≤ x) (h1 : x ≤ 9223372036854775807) : bits .andNot .i64 x 7 = x / 8 * 8 := by
  have key : (BitVec.ofInt 64 x &&& ~~~BitVec.ofInt 64 7).toNat = (x % 18446744073709551616).toNat / 8 * 8 := by
    have h7 : (BitVec.ofInt 64 7).toNat = 7 := by decide
    rw [BitVec.toNat_and, BitVec.toNat_not, h7, BitVec.toNat_ofInt]
    show (x % 18446744073709551616).toNat &&& 18446744073709551608 = _
    exact and_8 _ (by omega)
  show IntKind.i64.wrap ((BitVec.ofInt 64 x &&& ~~~BitVec.ofInt 64 7).toNat : Nat) = _
  rw [key, IntKind.wrap_i64]
  omega

set_option maxHeartbeats 1000000 in
theorem Patch_any (q : Ad) (s : Ps) (at_ v : Int) (s' : Ps) (er : Int) (w : World) (hs : patchS s at_ v = s') (he : patchE s at_ = er) (hp : RdP w q s) (hl : s.mem.length ≤ 140737488355328) :
    Calls Tryd.prog 67 #[stV q s, .int .i64 at_, .int .i64 v] w fun e w' => ∃ q', e = .returned (.tuple #[stV q' s', .int .i64 er]) ∧ Res w.heap.size q s w' q' s' ∧ Below w.heap.size w w' := by
  have HP := Lib.hid hp
  have HB0 := Lib.hid (below_two (below_lit w (.cells (stL q s).toArray 28)) (below_lit _ (.cells (stL nilA zeroP).toArray 28)))
  have HM := Lib.hid (hp.mem.below HB0.out)
  have HS := Lib.hid hs
  have HE := Lib.hid (show cellE s.mem.length at_ = er from he)
  clear hp hs he
  rw [stV_eq q s]
  go_enter Tryd.func67, Tryd.ntmps67
  go_wp2_with fail
  refine (SetCell_any q.m q.mc at_ v s.mem _ HM.out hl).mono ?_
  rintro e w1 ⟨x, rfl, ho, hb⟩
  rw [HE.out]
  have HG : Hid (Bx w1 w.heap.size 28 (stL q s)) := Lib.hid (((Bx.new w _ _ _ _ rfl rfl).alloc _).below hb)
  have HR : Hid (Bx w1 (w.heap.size + 1) 28 (stL nilA zeroP)) := Lib.hid ((Bx.new _ _ _ _ _ (by simp) rfl).below hb)
  have HB1 := Lib.hid (below_two HB0.out hb)
  obtain ⟨A', c', rfl, hrd⟩ := Rd.own ho
  have HD := Lib.hid ho
  clear ho hb hrd
  by_cases he : er = 0
  · subst he
    have hs2 : s' = { s with mem := setC s.mem at_ v } := by rw [← HS.out, patchS, if_pos HE.out]
    obtain ⟨m', hm'⟩ : ∃ m', setC s.mem at_ v = m' := ⟨_, rfl⟩
    rw [hm'] at HD hs2 ⊢
    have HM' := Lib.hid (show isB m' by rw [← hm']; exact setC_isB HP.out.memB)
    have HS2 := Lib.hid hs2
    clear hm' hs2
    go_wp2_with (refine wp_storeF rfl 22 _ _ rfl w.heap.size 0 _ rfl rfl rfl 28 (stL q s) HG.out 15 rfl (by decide) info1m ?_)
    intro w2 hg2 hw2
    have HG2 : Hid (Bx w2 w.heap.size 28 (stL { q with m := A', mc := c' } s')) := Lib.hid (by rw [HS2.out]; exact hg2)
    have HR2 := Lib.hid (HR.out.grown hw2 (by omega))
    have HB2 := Lib.hid (below_grown HB1.out HB1.out.size hw2 (Nat.le_refl _))
    have HD2 := Lib.hid (own_keep HD.out hw2 (by simp; omega))
    clear hg2 hw2
    go_wp2_with (first
      | (refine wp_loadS rfl 28 _ rfl w.heap.size rfl 28 (stL { q with m := A', mc := c' } s') _ HG2.out Tryd.underlying28 rfl 15 infoSt rfl ?_)
      | (refine wp_storeS rfl 28 _ _ rfl (w.heap.size + 1) (stL { q with m := A', mc := c' } s') rfl rfl 28 _ HR2.out 15 infoSt rfl rfl rfl ?_))
    intro w3 hr3 hw3
    have HR3 := Lib.hid hr3
    have HB3 := Lib.hid (below_grown HB2.out HB2.out.size hw3 (by omega))
    have HD3 := Lib.hid (own_keep HD2.out hw3 (by simp))
    clear hr3 hw3
    go_wp2
    refine bodyPost_ret (v := .tuple #[stV { q with m := A', mc := c' } s', .int .i64 0]) (results_S Tryd.results67 _ _ _ 28 _ _ rfl HR3.out Tryd.underlying28 rfl 15 infoSt rfl _ rfl) rfl ?_
    refine ⟨_, rfl, ?_, HB3.out⟩
    rw [HS2.out]
    exact ((Res.same w.heap.size HP.out).below HB3.out).withMem (own_rd HD3.out) HM'.out (own_block_ge (own_mono HD3.out (by simp; omega)))
  · have hs2 : s' = zeroP := by rw [← HS.out, patchS, if_neg (by rw [HE.out]; exact he)]
    have b1 : (er != 0) = true := by simpa using he
    subst hs2
    clear he
    go_wp2_with (refine wp_storeS rfl 28 _ _ rfl (w.heap.size + 1) (stL nilA zeroP) rfl rfl 28 _ HR.out 15 infoSt rfl rfl rfl ?_)
    intro w3 hr3 hw3
    have HR3 := Lib.hid hr3
    have HB3 := Lib.hid (below_grown HB1.out HB1.out.size hw3 (by omega))
    clear hr3 hw3
    go_wp2
    refine bodyPost_ret (v := .tuple #[stV nilA zeroP, .int .i64 er]) (results_S Tryd.results67 _ _ _ 28 _ _ rfl HR3.out Tryd.underlying28 rfl 15 infoSt rfl _ rfl) rfl ?_
    exact ⟨_, rfl, Res.zero _ _ _ _, HB3.out⟩

set_option maxHeartbeats 2000000 in
theorem Comma_any (q : Ad) (s : Ps) (v : Int) (s' : Ps) (er : Int) (w : World) (hs : commaS s v = s') (he : commaE s = er) (hp : RdP w q s) (hl : s.mem.length ≤ 140737488355328) :
    Calls Tryd.prog 69 #[stV q s, .int .i64 v] w fun e w' => ∃ q', e = .returned (.tuple #[stV q' s', .int .i64 er]) ∧ Res w.heap.size q s w' q' s' ∧ Below w.heap.size w w' := by
  have HB0 := Lib.hid (below_two (below_lit w (.cells (stL q s).toArray 28)) (below_lit _ (.cells (stL nilA zeroP).toArray 28)))
  have HP := Lib.hid (hp.below HB0.out)
  have HPw := Lib.hid hp
  have HS := Lib.hid hs
  have HE := Lib.hid he
  clear hp hs he
  by_cases hfull : (s.mem.length : Int) - 8 < s.here
  · obtain rfl : er = -8 := by rw [← HE.out, commaE, if_pos hfull]
    obtain rfl : s' = zeroP := by rw [← HS.out, commaS, HE.out]; rfl
    have HR : Hid (Bx ((w.alloc (.cells (stL q s).toArray 28)).alloc (.cells (stL nilA zeroP).toArray 28)) (w.heap.size + 1) 28 (stL nilA zeroP)) := Lib.hid (Bx.new _ _ _ _ _ (by simp) rfl)
    rw [stV_eq q s]
    go_enter Tryd.func69, Tryd.ntmps69
    go_wp2_with (refine wp_storeS rfl 28 _ _ rfl (w.heap.size + 1) (stL nilA zeroP) rfl rfl 28 _ HR.out 15 infoSt rfl rfl rfl ?_)
    intro w3 hr3 hw3
    have HR3 := Lib.hid hr3
    have HB3 := Lib.hid (below_grown HB0.out HB0.out.size hw3 (by omega))
    clear hr3 hw3
    go_wp2
    refine bodyPost_ret (v := .tuple #[stV nilA zeroP, .int .i64 (-8)]) (results_S Tryd.results69 _ _ _ 28 _ _ rfl HR3.out Tryd.underlying28 rfl 15 infoSt rfl _ rfl) rfl ?_
    exact ⟨_, rfl, Res.zero _ _ _ _, HB3.out⟩
  · have HE2 := Lib.hid (show patchE s s.here = er by have := HE.out; rw [commaE, if_neg hfull] at this; exact this)
    rw [stV_eq q s]
    go_enter Tryd.func69, Tryd.ntmps69
    have HG0 : Hid (Bx ((w.alloc (.cells (stL q s).toArray 28)).alloc (.cells (stL nilA zeroP).toArray 28)) w.heap.size 28 (stL q s)) := Lib.hid ((Bx.new w _ _ _ _ rfl rfl).alloc _)
    go_wp2_with (refine wp_loadS rfl 28 _ rfl w.heap.size rfl 28 (stL q s) _ HG0.out Tryd.underlying28 rfl 15 infoSt rfl ?_)
    refine (Patch_any q s s.here v _ er _ rfl HE2.out HP.out hl).mono ?_
    rintro e w1 ⟨q1, rfl, hp1, hb⟩
    have HG := Lib.hid (HG0.out.below hb)
    have HR : Hid (Bx w1 (w.heap.size + 1) 28 (stL nilA zeroP)) := Lib.hid ((Bx.new _ _ _ _ _ (by simp) rfl).below hb)
    have HB1 := Lib.hid (below_two HB0.out hb)
    have HP1 := Lib.hid (hp1.mono (by simp : w.heap.size + 2 ≤ _))
    clear hb hp1
    have HF := Lib.hid hfull
    clear hfull
    go_wp2_with (refine wp_storeS rfl 28 _ _ rfl w.heap.size (stL q1 (patchS s s.here v)) rfl rfl 28 _ HG.out 15 infoSt rfl rfl rfl ?_)
    intro w2 hg2 hw2
    have HG2 := Lib.hid hg2
    have HR2 := Lib.hid (HR.out.grown hw2 (by omega))
    have HB2 := Lib.hid (below_grown HB1.out HB1.out.size hw2 (Nat.le_refl _))
    have HP2 := Lib.hid (HP1.out.grown HPw.out hw2 (Nat.le_refl _) (by omega))
    clear hg2 hw2
    by_cases h0 : er = 0
    · subst h0
      have e1 : s' = { patchS s s.here v with here := s.here + 8 } := by rw [← HS.out, commaS_ok HE.out]
      have e2 := patchS_here (v := v) HE2.out
      have hr := cellE_zero HE2.out
      generalize patchS s s.here v = s1 at *
      have h8 : w2.cell? ⟨w.heap.size, 8, none⟩ = some (.int .i64 s.here) := by rw [HG2.out.cell 8, ← e2]; rfl
      have HE1 := Lib.hid e1
      have HH := Lib.hid e2
      clear e1 e2
      go_wp2_with (refine wp_storeF rfl 3 _ _ rfl w.heap.size 8 _ rfl rfl rfl 28 _ HG2.out 15 rfl (by decide) info1i ?_)
      intro w3 hg3 hw3
      have HG3 : Hid (Bx w3 w.heap.size 28 (stL q1 s')) := Lib.hid (by rw [HE1.out]; exact hg3)
      have HR3 := Lib.hid (HR2.out.grown hw3 (by omega))
      have HB3 := Lib.hid (below_grown HB2.out HB2.out.size hw3 (Nat.le_refl _))
      have HP3 := Lib.hid (HP2.out.grown HPw.out hw3 (Nat.le_refl _) (by omega))
      clear hg3 hw3 h8
      go_wp2_with (first
        | (refine wp_loadS rfl 28 _ rfl w.heap.size rfl 28 (stL q1 s') _ HG3.out Tryd.underlying28 rfl 15 infoSt rfl ?_)
        | (refine wp_storeS rfl 28 _ _ rfl (w.heap.size + 1) (stL q1 s') rfl rfl 28 _ HR3.out 15 infoSt rfl rfl rfl ?_))
      intro w4 hr4 hw4
      have HR4 := Lib.hid hr4
      have HB4 := Lib.hid (below_grown HB3.out HB3.out.size hw4 (by omega))
      have HP4 := Lib.hid (HP3.out.grown HPw.out hw4 (by omega) (by omega))
      clear hr4 hw4
      go_wp2
      refine bodyPost_ret (v := .tuple #[stV q1 s', .int .i64 0]) (results_S Tryd.results69 _ _ _ 28 _ _ rfl HR4.out Tryd.underlying28 rfl 15 infoSt rfl _ rfl) rfl ?_
      refine ⟨_, rfl, ?_, HB4.out⟩
      rw [HE1.out]
      exact (HP4.out.withHere _).mono (by omega)
    · have b1 : (er == 0) = false := by simpa using h0
      have e1 : s' = zeroP := by rw [← HS.out, commaS_no (by rw [HE.out]; exact h0)]
      have e2 : patchS s s.here v = zeroP := patchS_no (by rw [HE2.out]; exact h0)
      rw [e2] at HG2 HP2
      subst e1
      clear e2 h0
      go_wp2_with (first
        | (refine wp_loadS rfl 28 _ rfl w.heap.size rfl 28 _ _ HG2.out Tryd.underlying28 rfl 15 infoSt rfl ?_)
        | (refine wp_storeS rfl 28 _ _ rfl (w.heap.size + 1) (stL q1 zeroP) rfl rfl 28 _ HR2.out 15 infoSt rfl rfl rfl ?_))
      intro w4 hr4 hw4
      have HR4 := Lib.hid hr4
      have HB4 := Lib.hid (below_grown HB2.out HB2.out.size hw4 (by omega))
      have HP4 := Lib.hid (HP2.out.grown HPw.out hw4 (by omega) (by omega))
      clear hr4 hw4
      go_wp2
      refine bodyPost_ret (v := .tuple #[stV q1 zeroP, .int .i64 er]) (results_S Tryd.results69 _ _ _ 28 _ _ rfl HR4.out Tryd.underlying28 rfl 15 infoSt rfl _ rfl) rfl ?_
      exact ⟨_, rfl, HP4.out.mono (by omega), HB4.out⟩
end Go.Proofs.YtfkkmlgblhnkaaaDoor
