
/- The walk of FlowSettles. -/
import Derived.Test.YtfkkmlgblhnkaaaDoorPlainS11
namespace Go.Proofs.YtfkkmlgblhnkaaaDoor
open Go.RowKit

set_option maxRecDepth 100000 in
set_option maxHeartbeats 8000000 in
theorem FlowSettles_walk (a b : Int) (w : World) (ha : 0 ≤ a ∧ a < 256) (hb : 0 ≤ b ∧ b < 256) (ht : Tab w) :
    Calls Tryd.prog 6 #[.int .u8 a, .int .u8 b] w fun e w' => e = .returned (.bool true) ∧ Below w.heap.size w w' := by
  have HT := Lib.hid ht
  clear ht
  obtain ⟨m, hm, hm8⟩ : ∃ m : Nat, a.tmod 8 = m ∧ m < 8 := ⟨(a % 8).toNat, by rw [Int.tmod_eq_emod_of_nonneg ha.1]; omega, by omega⟩
  obtain ⟨k, hk, hk10⟩ : ∃ k : Nat, b.tmod 10 = k ∧ k < 10 := ⟨(b % 10).toNat, by rw [Int.tmod_eq_emod_of_nonneg hb.1]; omega, by omega⟩
  obtain ⟨M, hmk, hML, hMB, hMR, hsett⟩ := sett_M
  have hall := hsett m hm8 k hk10
  obtain ⟨s1, e1, hx⟩ : ∃ s e, runF (sett0 M k) (98 :: (moreO m ++ [100])) = (s, e) := ⟨_, _, rfl⟩
  obtain ⟨t1, f1, hy⟩ : ∃ s e, runF (sett0 M k) (106 :: (moreO m ++ [107])) = (s, e) := ⟨_, _, rfl⟩
  unfold settC at hall
  rw [hx, hy] at hall
  simp only [Bool.and_eq_true, decide_eq_true_eq] at hall
  obtain ⟨⟨⟨⟨⟨⟨⟨⟨rfl, rfl⟩, ml1⟩, ml2⟩, c1⟩, c2⟩, c3⟩, th0⟩, th1⟩ := hall
  have HML := Lib.hid hML
  have HMB := Lib.hid hMB
  have HMR := Lib.hid hMR
  have HMK := Lib.hid hmk
  have HX := Lib.hid hx
  have HY := Lib.hid hy
  have HC := Lib.hid (And.intro ml1 (And.intro ml2 (And.intro c1 (And.intro c2 c3))))
  clear hx hy ml1 ml2 c1 c2 c3 hML hMB hMR hmk hsett
  go_enter Tryd.func6, Tryd.ntmps6
  go_wp2_with fail
  refine (awake_any w HT.out).mono ?_
  rintro e w1 ⟨rfl, hb1⟩
  have HB1 := Lib.hid hb1
  clear hb1
  have HO : Hid (w1.ownsRow w1.heap.size 9 1 (.slice none 0 0) (2 * 0) (strs (moreN 0))) := Lib.hid ⟨rfl, .inl ⟨rfl, rfl⟩⟩
  have HBB := Lib.hid (Below.refl w1.heap.size w1)
  go_wp2_with fail
  go_loopw [7, 8] (fun v y wr => ∃ j : Nat, y = .int .i64 j ∧ j ≤ m ∧ Hid (wr.ownsRow w1.heap.size 9 1 v (2 * j) (strs (moreN j))) ∧ Hid (Below w1.heap.size w1 wr)) (fun _ y _ => m - (intOf y).toNat)
  case atStart => exact ⟨0, rfl, by omega, HO, HBB⟩
  case round =>
    obtain ⟨j, rfl, hj, HO, HBr⟩ := hrel
    by_cases hlt : j < m
    · have HD : Hid (Rd (wr.alloc (.cells #[.string bB, .string bA] 9)) (some ⟨wr.heap.size, 0, none⟩) 2 2 1 (strs [bB, bA])) := Lib.hid (rd_alloc wr (strs [bB, bA]) #[.string bB, .string bA] 9 (0, 0) 2 2 1 rfl rfl (by decide) (by decide))
      have HO1 := Lib.hid (own_below HO.out (below_lit wr (.cells #[.string bB, .string bA] 9)))
      have HB2 := Lib.hid (HBr.out.trans ((below_lit wr (.cells #[.string bB, .string bA] 9)).mono HBr.out.size))
      go_wp2_with (at_builtin; refine wp_app (w0 := w1) rfl (.tmp 33) (.tmp 34) 36 9 (.string ByteArray.empty) 1 16 rfl Tryd.underlying36 infoStr rfl (by decide) (by decide) w1.heap.size _ (2 * j) (strs (moreN j)) rfl HO1.out _ 2 2 (strs [bB, bA]) rfl HD.out (strs_one _) (by omega) (by have := HBr.out.size; simp; omega) HB2.out ?_)
      intro v3 w3 ho hb3 _
      have HO3 : Hid (w3.ownsRow w1.heap.size 9 1 v3 (2 * (j + 1)) (strs (moreN (j + 1)))) := Lib.hid (by
        rw [moreN_next, strs_app, show 2 * (j + 1) = 2 * j + 2 by omega]
        exact ho)
      have HB3 := Lib.hid hb3
      clear ho hb3
      go_wp2
      go_roundw
      case rel => exact ⟨j + 1, by go_num, by omega, HO3, HB3⟩
      case measure => simp [intOf] <;> omega
    · have hjm : j = m := by omega
      subst hjm
      obtain ⟨A7, c7, rfl, hr7⟩ := Rd.own HO.out
      have HR7 := Lib.hid hr7
      clear hr7
      have HBW1 := Lib.hid (Below.refl wr.heap.size wr)
      have HL1 : Hid ((wr.alloc (.cells #[.string bIF] 9)).ownsRow wr.heap.size 9 1 (.slice (some ⟨wr.heap.size, 0, none⟩) 1 1) 1 (strs [bIF])) := Lib.hid ⟨rfl, .inr ⟨_, 1, #[.string bIF], rfl, Nat.le_refl _, heap_alloc_new wr _, Nat.le_refl _, by decide, rfl, rfl⟩⟩
      have HRM1 := Lib.hid (HR7.out.below (below_two HBW1.out (below_lit wr (.cells #[.string bIF] 9))))
      go_wp2_with (at_builtin; refine wp_app (w0 := wr) rfl (.tmp 36) (.tmp 37) 36 9 (.string ByteArray.empty) 1 16 rfl Tryd.underlying36 infoStr rfl (by decide) (by decide) wr.heap.size _ 1 (strs [bIF]) rfl HL1.out _ (2 * j) c7 (strs (moreN j)) rfl HRM1.out (strs_one _) (by omega) (by simp) (below_lit wr _) ?_)
      intro va1 ua1 ho hbx _
      have HO1 := Lib.hid ho
      have HBX1 := Lib.hid hbx
      clear ho hbx HL1 HRM1
      have HD1 : Hid (Rd (ua1.alloc (.cells #[.string bTH] 9)) (some ⟨ua1.heap.size, 0, none⟩) 1 1 1 (strs [bTH])) := Lib.hid (rd_alloc ua1 (strs [bTH]) #[.string bTH] 9 (0, 0) 1 1 1 rfl rfl (by decide) (by decide))
      have HOO1 := Lib.hid (own_below HO1.out (below_lit ua1 (.cells #[.string bTH] 9)))
      have HBY1 := Lib.hid (HBX1.out.trans ((below_lit ua1 (.cells #[.string bTH] 9)).mono HBX1.out.size))
      go_wp2_with (at_builtin; refine wp_app (w0 := wr) rfl (.tmp 38) (.tmp 39) 36 9 (.string ByteArray.empty) 1 16 rfl Tryd.underlying36 infoStr rfl (by decide) (by decide) wr.heap.size _ (1 + 2 * j) _ rfl HOO1.out _ 1 1 (strs [bTH]) rfl HD1.out (strs_one _) (by omega) (by have := HBX1.out.size; simp; omega) HBY1.out ?_)
      intro vb1 ub1 ho hbx _
      obtain ⟨A1, c1, rfl, hrd⟩ := Rd.own ho
      have HRD1 : Hid (Rd ub1 A1 (1 + 2 * j + 1) c1 1 (strs (bIF :: (moreN j ++ [bTH])))) := Lib.hid (by
        have e : strs (bIF :: (moreN j ++ [bTH])) = (strs [bIF] ++ strs (moreN j)) ++ strs [bTH] := by simp [strs]
        rw [e]
        exact hrd)
      have HBZ1 := Lib.hid hbx
      clear ho hbx hrd HO1 HBX1 HD1 HOO1 HBY1
      have HBW2 : Hid (Below wr.heap.size wr ub1) := HBZ1
      have HX1 := Lib.hid HRD1.out
      have HL2 : Hid ((ub1.alloc (.cells #[.string bDO] 9)).ownsRow ub1.heap.size 9 1 (.slice (some ⟨ub1.heap.size, 0, none⟩) 1 1) 1 (strs [bDO])) := Lib.hid ⟨rfl, .inr ⟨_, 1, #[.string bDO], rfl, Nat.le_refl _, heap_alloc_new ub1 _, Nat.le_refl _, by decide, rfl, rfl⟩⟩
      have HRM2 := Lib.hid (HR7.out.below (below_two HBW2.out (below_lit ub1 (.cells #[.string bDO] 9))))
      go_wp2_with (at_builtin; refine wp_app (w0 := ub1) rfl (.tmp 41) (.tmp 42) 36 9 (.string ByteArray.empty) 1 16 rfl Tryd.underlying36 infoStr rfl (by decide) (by decide) ub1.heap.size _ 1 (strs [bDO]) rfl HL2.out _ (2 * j) c7 (strs (moreN j)) rfl HRM2.out (strs_one _) (by omega) (by simp) (below_lit ub1 _) ?_)
      intro va2 ua2 ho hbx _
      have HO2 := Lib.hid ho
      have HBX2 := Lib.hid hbx
      clear ho hbx HL2 HRM2
      have HD2 : Hid (Rd (ua2.alloc (.cells #[.string bLO] 9)) (some ⟨ua2.heap.size, 0, none⟩) 1 1 1 (strs [bLO])) := Lib.hid (rd_alloc ua2 (strs [bLO]) #[.string bLO] 9 (0, 0) 1 1 1 rfl rfl (by decide) (by decide))
      have HOO2 := Lib.hid (own_below HO2.out (below_lit ua2 (.cells #[.string bLO] 9)))
      have HBY2 := Lib.hid (HBX2.out.trans ((below_lit ua2 (.cells #[.string bLO] 9)).mono HBX2.out.size))
      go_wp2_with (at_builtin; refine wp_app (w0 := ub1) rfl (.tmp 43) (.tmp 44) 36 9 (.string ByteArray.empty) 1 16 rfl Tryd.underlying36 infoStr rfl (by decide) (by decide) ub1.heap.size _ (1 + 2 * j) _ rfl HOO2.out _ 1 1 (strs [bLO]) rfl HD2.out (strs_one _) (by omega) (by have := HBX2.out.size; simp; omega) HBY2.out ?_)
      intro vb2 ub2 ho hbx _
      obtain ⟨A2, c2, rfl, hrd⟩ := Rd.own ho
      have HRD2 : Hid (Rd ub2 A2 (1 + 2 * j + 1) c2 1 (strs (bDO :: (moreN j ++ [bLO])))) := Lib.hid (by
        have e : strs (bDO :: (moreN j ++ [bLO])) = (strs [bDO] ++ strs (moreN j)) ++ strs [bLO] := by simp [strs]
        rw [e]
        exact hrd)
      have HBZ2 := Lib.hid hbx
      clear ho hbx hrd HO2 HBX2 HD2 HOO2 HBY2
      have HBW3 : Hid (Below wr.heap.size wr ub2) := Lib.hid (below_two HBW2.out HBZ2.out)
      have HRX := Lib.hid (HRD1.out.below HBZ2.out)
      have HRY := HRD2
      have HW2 : Hid (Below w.heap.size w ub2) := Lib.hid (below_two (below_two HB1.out (HBr.out.mono (Nat.le_refl _))) HBW3.out)
      clear HBW1 HBW2 HBZ1 HBZ2 HRD1 HRD2 HX1 HO
      have hmk := HMK.out
      have hst : ∀ A : Option Addr, (.agg #[.slice A 400 400, .slice none 0 0, .slice none 0 0, .slice none 0 0, .slice none 0 0, .slice none 0 0, .slice none 0 0, .int .i64 0, .int .i64 (8 * (k : Int)), .int .i64 0, .int .i64 0, .int .i64 0, .int .i64 0, .bool false, .bool false] : Value) = stV (memA A 400) (sett0 M k) := fun A => by
        rw [stV_eq, show (sett0 M k).mem.length = 400 from HML.out]
        rfl
      have hb1 := below_lit ub2 (.cells (nums .u8 M).toArray 5 (0, 0))
      have HBm1 := Lib.hid hb1
      have HMW1 : Hid (RdI (ub2.alloc (.cells (nums .u8 M).toArray 5 (0, 0))) .u8 (some ⟨ub2.heap.size, 0, none⟩) 400 M) := Lib.hid (HMR.out ub2)
      clear hb1
      go_wp2_with fail
      have hp : RdP (ub2.alloc (.cells (nums .u8 M).toArray 5 (0, 0))) (memA (some ⟨ub2.heap.size, 0, none⟩) 400) (sett0 M k) := ⟨HMW1.out, HMB.out, rd_nil _ 1, rd_nil _ 2, rd_nil _ 1, rd_nil _ 4, rd_nil _ 2, rd_nil _ 1, by simp [sett0, isB]⟩
      have h5 : (bIF :: (moreN j ++ [bTH])).length = 1 + 2 * j + 1 := by simp [moreN_len]; omega
      have nn : namesOf (bIF :: (moreN j ++ [bTH])) (98 :: (moreO j ++ [100])) := names_cons (by decide +kernel) (by decide) (names_app (names_more j) (names_cons (by decide +kernel) (by decide) names_nil))
      have h6 : (sett0 M k).mem.length ≤ 1000000 := by rw [show (sett0 M k).mem.length = 400 from HML.out]; decide
      have hrun := Run_any (stV (memA (some ⟨ub2.heap.size, 0, none⟩) 400) (sett0 M k)) (memA (some ⟨ub2.heap.size, 0, none⟩) 400) (sett0 M k) A1 c1 (1 + 2 * j + 1) (bIF :: (moreN j ++ [bTH])) (98 :: (moreO j ++ [100])) s1 0 (ub2.alloc (.cells (nums .u8 M).toArray 5 (0, 0))) rfl h5 nn HX.out hp
        (HRX.out.below HBm1.out) (by omega) h6 (Nat.zero_le _) (Nat.zero_le _) (Nat.zero_le _) (HT.out.below (below_two HW2.out HBm1.out))
      clear hp h5 nn h6
      refine hrun.mono ?_
      clear hrun
      rintro e v1 ⟨q1, rfl, hr, hb⟩
      have HRr1 := Lib.hid hr
      have HBv1 := Lib.hid (below_two HBm1.out hb)
      rw [stV_eq q1 s1]
      obtain ⟨W1, hW⟩ : ∃ W, v1.alloc (.cells #[.slice q1.m s1.mem.length q1.mc, .slice q1.d s1.data.length q1.dc, .slice q1.r s1.ret.length q1.rc, .slice q1.c s1.ctl.length q1.cc, .slice q1.w s1.words.length q1.wc, .slice q1.s s1.spots.length q1.sc, .slice q1.o s1.out.length q1.oc, .int .i64 s1.ip, .int .i64 s1.here, .int .i64 s1.pos, .int .i64 s1.tok, .int .i64 s1.inp, .int .i64 s1.err, .bool s1.comp, .bool s1.halt] 28) = W := ⟨_, rfl⟩
      have hbl : Below v1.heap.size v1 W1 := by rw [← hW]; exact below_lit _ _
      have HBv1 := Lib.hid (below_two HBv1.out hbl)
      have HRr1 := Lib.hid (HRr1.out.below hbl)
      have HG1 : Hid (Bx W1 v1.heap.size 28 (stL q1 s1)) := Lib.hid (by rw [← hW]; exact Bx.new _ _ _ _ _ rfl rfl)
      have HWW1 := Lib.hid hW
      have HWz1 := Lib.hid (below_two HW2.out HBv1.out)
      clear hr hb hbl hW HMW1 HBm1
      have HRY1 := Lib.hid (HRY.out.below HBv1.out)
      have hb2 := below_lit W1 (.cells (nums .u8 M).toArray 5 (0, 0))
      have HBm2 := Lib.hid hb2
      have HMW2 : Hid (RdI (W1.alloc (.cells (nums .u8 M).toArray 5 (0, 0))) .u8 (some ⟨W1.heap.size, 0, none⟩) 400 M) := Lib.hid (HMR.out W1)
      clear hb2
      go_wp2_with fail
      rw [HWW1.out]
      have hp : RdP (W1.alloc (.cells (nums .u8 M).toArray 5 (0, 0))) (memA (some ⟨W1.heap.size, 0, none⟩) 400) (sett0 M k) := ⟨HMW2.out, HMB.out, rd_nil _ 1, rd_nil _ 2, rd_nil _ 1, rd_nil _ 4, rd_nil _ 2, rd_nil _ 1, by simp [sett0, isB]⟩
      have h5 : (bDO :: (moreN j ++ [bLO])).length = 1 + 2 * j + 1 := by simp [moreN_len]; omega
      have nn : namesOf (bDO :: (moreN j ++ [bLO])) (106 :: (moreO j ++ [107])) := names_cons (by decide +kernel) (by decide) (names_app (names_more j) (names_cons (by decide +kernel) (by decide) names_nil))
      have h6 : (sett0 M k).mem.length ≤ 1000000 := by rw [show (sett0 M k).mem.length = 400 from HML.out]; decide
      have hrun := Run_any (stV (memA (some ⟨W1.heap.size, 0, none⟩) 400) (sett0 M k)) (memA (some ⟨W1.heap.size, 0, none⟩) 400) (sett0 M k) A2 c2 (1 + 2 * j + 1) (bDO :: (moreN j ++ [bLO])) (106 :: (moreO j ++ [107])) t1 0 (W1.alloc (.cells (nums .u8 M).toArray 5 (0, 0))) rfl h5 nn HY.out hp
        (HRY1.out.below HBm2.out) (by omega) h6 (Nat.zero_le _) (Nat.zero_le _) (Nat.zero_le _) (HT.out.below (below_two HWz1.out HBm2.out))
      have hW1s : W1.heap.size = v1.heap.size + 1 := by rw [← HWW1.out]; simp
      rw [hW1s] at hrun
      clear hW1s
      clear hp h5 nn h6
      refine hrun.mono ?_
      clear hrun
      rintro e v2 ⟨q2, rfl, hr, hb⟩
      have HRr2 := Lib.hid hr
      have HBv2 := Lib.hid (below_two HBm2.out hb)
      rw [stV_eq q2 t1]
      obtain ⟨W2, hW⟩ : ∃ W, v2.alloc (.cells #[.slice q2.m t1.mem.length q2.mc, .slice q2.d t1.data.length q2.dc, .slice q2.r t1.ret.length q2.rc, .slice q2.c t1.ctl.length q2.cc, .slice q2.w t1.words.length q2.wc, .slice q2.s t1.spots.length q2.sc, .slice q2.o t1.out.length q2.oc, .int .i64 t1.ip, .int .i64 t1.here, .int .i64 t1.pos, .int .i64 t1.tok, .int .i64 t1.inp, .int .i64 t1.err, .bool t1.comp, .bool t1.halt] 28) = W := ⟨_, rfl⟩
      have hbl : Below v2.heap.size v2 W2 := by rw [← hW]; exact below_lit _ _
      have HBv2 := Lib.hid (below_two HBv2.out hbl)
      have HRr2 := Lib.hid (HRr2.out.below hbl)
      have HG2 : Hid (Bx W2 v2.heap.size 28 (stL q2 t1)) := Lib.hid (by rw [← hW]; exact Bx.new _ _ _ _ _ rfl rfl)
      have HWW2 := Lib.hid hW
      have HWz2 := Lib.hid (below_two HWz1.out HBv2.out)
      clear hr hb hbl hW HMW2 HBm2
      have HG1 := Lib.hid (HG1.out.below HBv2.out)
      have HRr1 := Lib.hid (HRr1.out.below HBv2.out)
      have d0 : W2.cell? ⟨v1.heap.size, 0, none⟩ = some (.slice q1.m s1.mem.length q1.mc) := HG1.out.cell 0
      have d8 : W2.cell? ⟨v1.heap.size, 8, none⟩ = some (.int .i64 s1.here) := HG1.out.cell 8
      have g0 : W2.cell? ⟨v2.heap.size, 0, none⟩ = some (.slice q2.m t1.mem.length q2.mc) := HG2.out.cell 0
      have g8 : W2.cell? ⟨v2.heap.size, 8, none⟩ = some (.int .i64 t1.here) := HG2.out.cell 8
      clear hmk hst
      have d0l := d0
      rw [← HWW2.out] at d0l
      go_wp2_with fail
      rw [HWW2.out]
      clear d0l
      refine (Cell_is q1.m q1.mc (8 * (k : Int) + 8) s1.mem W2 _ s1.here _ rfl HC.out.2.2.1 rfl HRr1.out.mem HRr1.out.memB).mono ?_
      rintro e w6 ⟨rfl, rfl⟩
      go_wp2_with fail
      refine (Cell_is q2.m q2.mc (8 * (k : Int) + 8) t1.mem W2 _ t1.here _ rfl HC.out.2.2.2.1 rfl HRr2.out.mem HRr2.out.memB).mono ?_
      rintro e w6 ⟨rfl, rfl⟩
      go_wp2_with fail
      refine (Cell_is q2.m q2.mc (t1.here - 8) t1.mem W2 _ (8 * (k : Int) + 16) _ rfl HC.out.2.2.2.2 rfl HRr2.out.mem HRr2.out.memB).mono ?_
      rintro e w6 ⟨rfl, rfl⟩
      go_wp2
      go_ret
      exact ⟨rfl, HWz2.out⟩
end Go.Proofs.YtfkkmlgblhnkaaaDoor
