
/- defs.work: quote, compiled. -/
import Derived.Test.YtappfhjknihboaaGreatDoorML
namespace Go.Proofs.YtappfhjknihboaaGreatDoor
open Go.RowKit

set_option maxRecDepth 100000 in
set_option maxHeartbeats 8000000 in
theorem Quote_yes (g : Nat) (q : Ad) (s : Ps) (x : Sx) (e : Int) (s' : Ps) (e' : Int) (w : World) (hr : quoteD x (s, e) = (s', e')) (hc : s.comp = true) (h : Dk w g q s x e) (hsz : x.src.size ≤ 200)
    (hm : s.mem.length ≤ 1000000) (hsp : s.spots.length ≤ 100000) (_ho : s.out.length ≤ 100000) :
    Calls Tryz.prog 75 #[.pointer (some ⟨g, 0, none⟩)] w fun r w' => r = .returned (.tuple #[]) ∧ ∃ q', Td g w q s w' q' s' x e' := by
  have H := Lib.hid h
  have c9 := h.pos
  have c15 := h.src
  have c13 := h.comp
  have hg := h.lt
  have HTS := Lib.hid (quoT_size x s hsz)
  have hsz2 : x.src.size ≤ maxLen := by unfold maxLen; omega
  obtain ⟨t, ht⟩ : ∃ t, quoT x s = t := ⟨_, rfl⟩
  obtain ⟨s1, hs1⟩ : ∃ a, quoP x s = a := ⟨_, rfl⟩
  have hF : s1.mem = s.mem ∧ s1.spots = s.spots ∧ s1.out = s.out ∧ s1.comp = s.comp := by rw [← hs1]; exact ⟨rfl, rfl, rfl, rfl⟩
  have HF := Lib.hid hF
  unfold quoteD at hr
  simp only at hr
  rw [ht, hs1] at hr
  rw [ht] at HTS
  have HT := Lib.hid ht
  have HR := Lib.hid hr
  have HS1 := Lib.hid hs1
  clear h hr ht hs1 hF
  go_enter Tryz.func75, Tryz.ntmps75
  go_upto_region 0 with fail
  go_cut [2, 3] (fun a b wx => a = .string t ∧ b = .int .i64 s1.pos ∧ Hid (Below w.heap.size w wx))
  case first =>
    go_region_law (first
      | (go_simp; go_at_call 72; refine (L06.Until_any x.src s.pos 34 _ hsz2 (by decide) (by decide)).mono ?_; rintro r w1 ⟨rfl, hb⟩; have hb1 : Below w.heap.size w w1 := (Below.refl _ _).drew.trans hb))
    all_goals
      go_wp2_with fail
      go_meet
      exact ⟨by rw [← HT.out]; rfl, by rw [← HS1.out]; rfl, Lib.hid hb1⟩
  case rest =>
    obtain ⟨rfl, rfl, HB⟩ := hcut
    obtain ⟨w1, hW⟩ : ∃ W, W = wc := ⟨_, rfl⟩
    subst hW
    have H1 := Lib.hid (H.out.below HB.out)
    clear c9 c15 c13
    go_wp2_with (refine wp_storeF rfl 3 _ _ rfl g 9 _ rfl rfl rfl 62 _ H1.out.bx 21 rfl (by decide) info1i ?_)
    intro w2 hg2 hw2
    have HT2 : Hid (Td g w q s w2 q s1 x e) := Lib.hid (by
      have hG : Bx w2 g 62 (wdL q s1 x e) := by rw [← HS1.out] at hg2 ⊢; exact hg2
      rw [← HS1.out] at hG ⊢
      exact Td.of_below HB.out ⟨⟨hG, (H1.out.rd.grown H1.out.ls hw2 (fun h => h rfl)).withPos _, H1.out.ls.withPos _⟩, fun S hS => (hS.withPos _).mono (fun _ h => .inl h), hw2⟩)
    clear hg2 hw2 H1 HB
    have hcomp := HF.out.2.2.2
    have hr := HR.out
    rw [if_pos hc] at hr
    rw [hc] at hcomp
    have c13 := HT2.out.wk.comp
    rw [hcomp] at c13
    have HR2 := Lib.hid hr
    clear hr HR hc hcomp
    obtain ⟨n, hn⟩ : ∃ n, t.size = n := ⟨_, rfl⟩
    obtain ⟨u, hu⟩ : ∃ u, upR n = u := ⟨_, rfl⟩
    obtain ⟨s2, e2, hem⟩ : ∃ a b, emitD (s1, e) [10, (n : Int)] = (a, b) := ⟨_, _, rfl⟩
    have HML : Hid (s2.mem.length ≤ 1000000) := Lib.hid (by rw [emitD_mem hem, HF.out.1]; exact hm)
    obtain ⟨e3, he3⟩ : ∃ a, (roomD u (s2, e2)).2 = a := ⟨_, rfl⟩
    obtain ⟨s4, e4, hst⟩ : ∃ a b, setsD t n 0 (s2, e3) = (a, b) := ⟨_, _, rfl⟩
    have hrm : roomD u (s2, e2) = (s2, e3) := by
      rw [← he3]
      unfold roomD
      split <;> rfl
    have HR3 : Hid (upsD u (s4, e4) = (s', e')) := Lib.hid (by
      have h := HR2.out
      unfold layD at h
      rw [hn, hu, hem, hrm, hst] at h
      exact h)
    have HN := Lib.hid hn
    have HU := Lib.hid hu
    have HEM := Lib.hid hem
    have HRM := Lib.hid hrm
    have HST := Lib.hid hst
    have hnb : n ≤ 200 := by rw [← hn]; exact HTS.out
    clear HR2 hn hu hem he3 hst hrm
    go_wp2_with fail
    rw [HN.out]
    refine (Emit_go g q s1 x e (some ⟨w2.heap.size, 0, none⟩) 2 2 [10, (n : Int)] s2 e2 _ rfl HEM.out (HT2.out.wk.below (below_lit _ _)) (rd_two w2 10 n) (by have := HF.out.1; rw [this]; omega) (by have := HF.out.2.1; rw [this]; omega)).mono ?_
    rintro r w3 ⟨rfl, q3, ht⟩
    have HT3 := Lib.hid (HT2.out.trans (Td.of_below (below_lit _ _) ht))
    clear ht
    obtain ⟨L, hL⟩ : ∃ L, s2.mem.length = L := ⟨_, rfl⟩
    have hLb := HT3.out.wk.rd.mem.le
    have hLc := HT3.out.wk.rd.mem.cap
    unfold maxLen at hLc
    rw [hL] at hLb
    have HL := Lib.hid hL
    have k0 := HT3.out.wk.mem
    have k8 := HT3.out.wk.here
    rw [hL] at k0
    clear hL
    by_cases h0 : e2 = 0
    · subst h0
      by_cases h1 : wrap64 ((L : Int) - s2.here) < u
      · have he3 : e3 = -8 := by
          have h := HRM.out
          rw [roomD, if_pos ⟨rfl, by show wrap64 ((s2.mem.length : Int) - s2.here) < u; rw [HL.out]; exact h1⟩] at h
          injection h with _ h
          exact h.symm
        subst he3
        have hg1 : decide (IntKind.i64.wrap ((L : Int) - s2.here) < u) = true := by rw [decide_eq_true_eq, wrapW]; exact h1
        go_upto_region 5 with fail
        go_quiet ((first | (go_at_call 25; refine quiet_sw (Ok_any g 0 true _ rfl ?_); exact HT3.out.wk.er) | (go_at_call 101; refine quiet_sw (Up_any _ u _ ?_); rw [HN.out]; exact HU.out)))
        have HT3' := Lib.hid (HT3.out.then_below (bel_drewN w3 nq))
        go_wp2_with fail
        refine (Fail_any g q3 s2 x 0 (-8) _ HT3'.out.wk).mono ?_
        rintro r w4 ⟨rfl, ht⟩
        have HT4 : Hid (Td g w q s w4 q3 s2 x (-8)) := Lib.hid (HT3'.out.trans ht)
        clear ht
        go_wp2_with fail
        go_loopw [75] (fun i wr => ∃ (j : Nat) (q1 : Ad) (sx : Ps) (ex : Int), i = .int .i64 j ∧ j ≤ n ∧ Hid (setsD t (n - j) j (sx, ex) = (s4, e4)) ∧ Hid (Td g w q s wr q1 sx x ex) ∧ Hid (sx.mem.length ≤ 1000000)) (fun i _ => n - (intOf i).toNat)
        case atStart => exact ⟨0, q3, s2, -8, rfl, by omega, HST, HT4, HML⟩
        case round =>
          obtain ⟨j, q1, sx, ex, rfl, hj, HS, HK, HLX⟩ := hrel
          by_cases hjn : j < n
          --LOOP
          · have hlt : (j : Int) < t.size := by rw [HN.out]; omega
            have hj0 : (0 : Int) ≤ j := by omega
            have hgt := get_bt t j (by omega)
            have hbr := bt_range t j
            have hwj : IntKind.i64.wrap ((j : Int) + 1) = (j : Int) + 1 := IntWalk.i64_in _ (by omega)
            go_wp2_with fail
            by_cases hx0 : ex = 0
            · subst hx0
              refine (Ok_any g 0 true wr rfl HK.out.wk.er).mono ?_
              rintro r wr2 ⟨rfl, rfl⟩
              have m0 := HK.out.wk.mem
              have m8 := HK.out.wk.here
              go_upto_region 11 with fail
              go_cut [5, 6] (fun a b wx => ∃ A c, a = .slice A (setB sx.mem (wrap64 (sx.here + j)) (bt t j)).length c ∧ b = .int .i64 (byteE sx.mem.length (wrap64 (sx.here + j))) ∧ Hid (Below wr.heap.size wr wx) ∧ Hid (wx.ownsRow wr.heap.size 5 1 (.slice A (setB sx.mem (wrap64 (sx.here + j)) (bt t j)).length c) (setB sx.mem (wrap64 (sx.here + j)) (bt t j)).length (nums .u8 (setB sx.mem (wrap64 (sx.here + j)) (bt t j)))))
              case first =>
                have hwb : IntKind.i64.wrap (bt t j) = bt t j := IntWalk.i64_in _ (by omega)
                have hwx : IntKind.i64.wrap (sx.here + (j : Int)) = wrap64 (sx.here + j) := wrapW _
                go_region_law (first
                  | (go_simp; go_at_call 112; refine (SetByte_any q1.m q1.mc _ _ sx.mem wr.drew (HK.out.wk.rd.mem.below (Below.refl _ _).drew) (by have := HLX.out; omega)).mono ?_; rintro r w5 ⟨v5, rfl, ho, hb⟩))
                all_goals
                  obtain ⟨A, c, hv, _⟩ := Rd.own ho
                  subst hv
                  have HO5 : Hid (w5.ownsRow wr.heap.size 5 1 (.slice A (setB sx.mem (wrap64 (sx.here + j)) (bt t j)).length c) (setB sx.mem (wrap64 (sx.here + j)) (bt t j)).length (nums .u8 (setB sx.mem (wrap64 (sx.here + j)) (bt t j)))) := Lib.hid ho
                  have HB5 : Hid (Below wr.heap.size wr w5) := Lib.hid ((Below.refl _ _).drew.trans hb)
                  clear ho hb
                  go_wp2_with fail
                  go_meet
                  exact ⟨A, c, rfl, rfl, HB5, HO5⟩
              case rest =>
                obtain ⟨A, cA, rfl, rfl, HB5, HO5⟩ := hcut
                obtain ⟨w5, hW⟩ : ∃ W, W = wc := ⟨_, rfl⟩
                subst hW
                have HK5 := Lib.hid (HK.out.then_below HB5.out)
                have hgl := HK.out.wk.lt
                have hsz5 := HK.out.gr.size
                obtain ⟨m1, hm1⟩ : ∃ m1, setB sx.mem (wrap64 (sx.here + j)) (bt t j) = m1 := ⟨_, rfl⟩
                obtain ⟨f1, hf1⟩ : ∃ f1, byteE sx.mem.length (wrap64 (sx.here + j)) = f1 := ⟨_, rfl⟩
                have HNX : Hid (setsD t (n - (j + 1)) (j + 1) ({ sx with mem := m1 }, f1) = (s4, e4)) := Lib.hid (by
                  have h := HS.out
                  rw [setsD_step hjn, setD, if_pos rfl] at h
                  simp only at h
                  rw [hm1, hf1] at h
                  exact h)
                have HM1 : Hid (m1.length ≤ 1000000) := Lib.hid (by rw [← hm1]; exact Nat.le_trans (setB_le _ _ _) HLX.out)
                have HMB : Hid (isB m1) := Lib.hid (by rw [← hm1]; exact isB_setD HK.out.wk.rd.memB _ _)
                rw [hm1] at HO5
                rw [hm1, hf1]
                clear hm1 hf1
                go_wp2_with fail
                refine (Fail_any g q1 sx x 0 f1 w5 HK5.out.wk).mono ?_
                rintro r w6 ⟨rfl, ht⟩
                have HK6 : Hid (Td g w q s w6 q1 sx x f1) := Lib.hid (HK5.out.trans ht)
                have HO6 : Hid (w6.ownsRow wr.heap.size 5 1 (.slice A m1.length cA) m1.length (nums .u8 m1)) := Lib.hid (own_keep HO5.out ht.gr hgl)
                clear ht
                go_wp2_with (refine wp_storeF rfl 22 _ _ rfl g 0 _ rfl rfl rfl 62 _ HK6.out.wk.bx 21 rfl (by decide) info1u ?_)
                intro w7 hg7 hw7
                have hO7 := own_keep HO6.out hw7 hgl
                have hab : 0 < m1.length → ∀ ad, A = some ad → wr.heap.size ≤ ad.block := own_block_ge hO7
                have HK7 : Hid (Td g w q s w7 { q1 with m := A, mc := cA } { sx with mem := m1 } x f1) := Lib.hid (by
                  have hb : Bx w7 g 62 (wdL { q1 with m := A, mc := cA } { sx with mem := m1 } x f1) := hg7
                  have hr := (HK6.out.wk.rd.grown HK6.out.wk.ls hw7 (fun h => h rfl)).withMem (own_rd hO7) HMB.out
                  have hl := HK6.out.wk.ls
                  refine ⟨⟨hb, hr, ⟨fun h0 ad e => ?_, hl.data, hl.ret, hl.ctl, hl.words, hl.spots, hl.out⟩⟩, fun S hS => ?_, HK6.out.gr.trans hw7⟩
                  · have := hab h0 ad e
                    show ad.block ≠ g
                    omega
                  · have h2 := HK6.out.lies S hS
                    refine ⟨fun h0 ad e => .inr ?_, h2.data, h2.ret, h2.ctl, h2.words, h2.spots, h2.out⟩
                    have := hab h0 ad e
                    omega)
                clear hg7 hw7 hO7 hab
                go_wp2
                go_roundw
                case rel => exact ⟨j + 1, _, _, f1, (by push_cast; rfl), by omega, HNX, HK7, HM1⟩
                case measure => simp [intOf]; omega
            · refine (Ok_any g ex false wr (by simpa using hx0) HK.out.wk.er).mono ?_
              rintro r wr2 ⟨rfl, rfl⟩
              have HNX : Hid (setsD t (n - (j + 1)) (j + 1) (sx, ex) = (s4, e4)) := Lib.hid (by
                have h := HS.out
                rw [setsD_step hjn, setD, if_neg hx0] at h
                exact h)
              go_wp2
              go_roundw
              case rel => exact ⟨j + 1, _, _, ex, (by push_cast; rfl), by omega, HNX, HK, HLX⟩
              case measure => simp [intOf]; omega
          · obtain rfl : j = n := by omega
            have hge : ¬ (j : Int) < t.size := by rw [HN.out]; omega
            have hs4 : (sx, ex) = (s4, e4) := by
              have h := HS.out
              rw [Nat.sub_self, setsD] at h
              exact h
            injection hs4 with ha hb
            subst ha hb
            have m8 := HK.out.wk.here
            have f8 := HK.out.wk.bx.free 8
            go_upto_region 15 with fail
            go_region_law (first
              | (go_simp; go_at_call 101; refine (Up_any _ u wr.drew (by first | exact HU.out | (rw [HN.out]; exact HU.out))).mono ?_; rintro r w9 ⟨rfl, rfl⟩))
            all_goals
              have HT9 := Lib.hid ((HK.out.here (n := wrap64 (sx.here + u)) (HK.out.wk.bx.setc 8 (.int .i64 (wrap64 (sx.here + u)))) (grown_setCell wr g 8 _)).then_below (bel_drewN _ 1))
              have hr := HR3.out
              unfold upsD at hr
              injection hr with ha hb
              subst ha hb
              rw [wrapW]
              first | go_end0 | (refine bodyPost_ret (results_none rfl _ _ _) rfl ?_)
              exact ⟨rfl, q1, HT9.out⟩
          --POOL
      · have he3 : e3 = 0 := by
          have h := HRM.out
          rw [roomD, if_neg (fun h => h1 (by rw [← HL.out]; exact h.2))] at h
          injection h with _ h
          exact h.symm
        subst he3
        have hg1 : decide (IntKind.i64.wrap ((L : Int) - s2.here) < u) = false := by rw [decide_eq_false_iff_not, wrapW]; exact h1
        go_upto_region 5 with fail
        go_quiet ((first | (go_at_call 25; refine quiet_sw (Ok_any g 0 true _ rfl ?_); exact HT3.out.wk.er) | (go_at_call 101; refine quiet_sw (Up_any _ u _ ?_); rw [HN.out]; exact HU.out)))
        have HT4 := Lib.hid (HT3.out.then_below (bel_drewN w3 nq))
        go_wp2_with fail
        go_loopw [75] (fun i wr => ∃ (j : Nat) (q1 : Ad) (sx : Ps) (ex : Int), i = .int .i64 j ∧ j ≤ n ∧ Hid (setsD t (n - j) j (sx, ex) = (s4, e4)) ∧ Hid (Td g w q s wr q1 sx x ex) ∧ Hid (sx.mem.length ≤ 1000000)) (fun i _ => n - (intOf i).toNat)
        case atStart => exact ⟨0, q3, s2, 0, rfl, by omega, HST, HT4, HML⟩
        case round =>
          obtain ⟨j, q1, sx, ex, rfl, hj, HS, HK, HLX⟩ := hrel
          by_cases hjn : j < n
          --LOOP
          · have hlt : (j : Int) < t.size := by rw [HN.out]; omega
            have hj0 : (0 : Int) ≤ j := by omega
            have hgt := get_bt t j (by omega)
            have hbr := bt_range t j
            have hwj : IntKind.i64.wrap ((j : Int) + 1) = (j : Int) + 1 := IntWalk.i64_in _ (by omega)
            go_wp2_with fail
            by_cases hx0 : ex = 0
            · subst hx0
              refine (Ok_any g 0 true wr rfl HK.out.wk.er).mono ?_
              rintro r wr2 ⟨rfl, rfl⟩
              have m0 := HK.out.wk.mem
              have m8 := HK.out.wk.here
              go_upto_region 11 with fail
              go_cut [5, 6] (fun a b wx => ∃ A c, a = .slice A (setB sx.mem (wrap64 (sx.here + j)) (bt t j)).length c ∧ b = .int .i64 (byteE sx.mem.length (wrap64 (sx.here + j))) ∧ Hid (Below wr.heap.size wr wx) ∧ Hid (wx.ownsRow wr.heap.size 5 1 (.slice A (setB sx.mem (wrap64 (sx.here + j)) (bt t j)).length c) (setB sx.mem (wrap64 (sx.here + j)) (bt t j)).length (nums .u8 (setB sx.mem (wrap64 (sx.here + j)) (bt t j)))))
              case first =>
                have hwb : IntKind.i64.wrap (bt t j) = bt t j := IntWalk.i64_in _ (by omega)
                have hwx : IntKind.i64.wrap (sx.here + (j : Int)) = wrap64 (sx.here + j) := wrapW _
                go_region_law (first
                  | (go_simp; go_at_call 112; refine (SetByte_any q1.m q1.mc _ _ sx.mem wr.drew (HK.out.wk.rd.mem.below (Below.refl _ _).drew) (by have := HLX.out; omega)).mono ?_; rintro r w5 ⟨v5, rfl, ho, hb⟩))
                all_goals
                  obtain ⟨A, c, hv, _⟩ := Rd.own ho
                  subst hv
                  have HO5 : Hid (w5.ownsRow wr.heap.size 5 1 (.slice A (setB sx.mem (wrap64 (sx.here + j)) (bt t j)).length c) (setB sx.mem (wrap64 (sx.here + j)) (bt t j)).length (nums .u8 (setB sx.mem (wrap64 (sx.here + j)) (bt t j)))) := Lib.hid ho
                  have HB5 : Hid (Below wr.heap.size wr w5) := Lib.hid ((Below.refl _ _).drew.trans hb)
                  clear ho hb
                  go_wp2_with fail
                  go_meet
                  exact ⟨A, c, rfl, rfl, HB5, HO5⟩
              case rest =>
                obtain ⟨A, cA, rfl, rfl, HB5, HO5⟩ := hcut
                obtain ⟨w5, hW⟩ : ∃ W, W = wc := ⟨_, rfl⟩
                subst hW
                have HK5 := Lib.hid (HK.out.then_below HB5.out)
                have hgl := HK.out.wk.lt
                have hsz5 := HK.out.gr.size
                obtain ⟨m1, hm1⟩ : ∃ m1, setB sx.mem (wrap64 (sx.here + j)) (bt t j) = m1 := ⟨_, rfl⟩
                obtain ⟨f1, hf1⟩ : ∃ f1, byteE sx.mem.length (wrap64 (sx.here + j)) = f1 := ⟨_, rfl⟩
                have HNX : Hid (setsD t (n - (j + 1)) (j + 1) ({ sx with mem := m1 }, f1) = (s4, e4)) := Lib.hid (by
                  have h := HS.out
                  rw [setsD_step hjn, setD, if_pos rfl] at h
                  simp only at h
                  rw [hm1, hf1] at h
                  exact h)
                have HM1 : Hid (m1.length ≤ 1000000) := Lib.hid (by rw [← hm1]; exact Nat.le_trans (setB_le _ _ _) HLX.out)
                have HMB : Hid (isB m1) := Lib.hid (by rw [← hm1]; exact isB_setD HK.out.wk.rd.memB _ _)
                rw [hm1] at HO5
                rw [hm1, hf1]
                clear hm1 hf1
                go_wp2_with fail
                refine (Fail_any g q1 sx x 0 f1 w5 HK5.out.wk).mono ?_
                rintro r w6 ⟨rfl, ht⟩
                have HK6 : Hid (Td g w q s w6 q1 sx x f1) := Lib.hid (HK5.out.trans ht)
                have HO6 : Hid (w6.ownsRow wr.heap.size 5 1 (.slice A m1.length cA) m1.length (nums .u8 m1)) := Lib.hid (own_keep HO5.out ht.gr hgl)
                clear ht
                go_wp2_with (refine wp_storeF rfl 22 _ _ rfl g 0 _ rfl rfl rfl 62 _ HK6.out.wk.bx 21 rfl (by decide) info1u ?_)
                intro w7 hg7 hw7
                have hO7 := own_keep HO6.out hw7 hgl
                have hab : 0 < m1.length → ∀ ad, A = some ad → wr.heap.size ≤ ad.block := own_block_ge hO7
                have HK7 : Hid (Td g w q s w7 { q1 with m := A, mc := cA } { sx with mem := m1 } x f1) := Lib.hid (by
                  have hb : Bx w7 g 62 (wdL { q1 with m := A, mc := cA } { sx with mem := m1 } x f1) := hg7
                  have hr := (HK6.out.wk.rd.grown HK6.out.wk.ls hw7 (fun h => h rfl)).withMem (own_rd hO7) HMB.out
                  have hl := HK6.out.wk.ls
                  refine ⟨⟨hb, hr, ⟨fun h0 ad e => ?_, hl.data, hl.ret, hl.ctl, hl.words, hl.spots, hl.out⟩⟩, fun S hS => ?_, HK6.out.gr.trans hw7⟩
                  · have := hab h0 ad e
                    show ad.block ≠ g
                    omega
                  · have h2 := HK6.out.lies S hS
                    refine ⟨fun h0 ad e => .inr ?_, h2.data, h2.ret, h2.ctl, h2.words, h2.spots, h2.out⟩
                    have := hab h0 ad e
                    omega)
                clear hg7 hw7 hO7 hab
                go_wp2
                go_roundw
                case rel => exact ⟨j + 1, _, _, f1, (by push_cast; rfl), by omega, HNX, HK7, HM1⟩
                case measure => simp [intOf]; omega
            · refine (Ok_any g ex false wr (by simpa using hx0) HK.out.wk.er).mono ?_
              rintro r wr2 ⟨rfl, rfl⟩
              have HNX : Hid (setsD t (n - (j + 1)) (j + 1) (sx, ex) = (s4, e4)) := Lib.hid (by
                have h := HS.out
                rw [setsD_step hjn, setD, if_neg hx0] at h
                exact h)
              go_wp2
              go_roundw
              case rel => exact ⟨j + 1, _, _, ex, (by push_cast; rfl), by omega, HNX, HK, HLX⟩
              case measure => simp [intOf]; omega
          · obtain rfl : j = n := by omega
            have hge : ¬ (j : Int) < t.size := by rw [HN.out]; omega
            have hs4 : (sx, ex) = (s4, e4) := by
              have h := HS.out
              rw [Nat.sub_self, setsD] at h
              exact h
            injection hs4 with ha hb
            subst ha hb
            have m8 := HK.out.wk.here
            have f8 := HK.out.wk.bx.free 8
            go_upto_region 15 with fail
            go_region_law (first
              | (go_simp; go_at_call 101; refine (Up_any _ u wr.drew (by first | exact HU.out | (rw [HN.out]; exact HU.out))).mono ?_; rintro r w9 ⟨rfl, rfl⟩))
            all_goals
              have HT9 := Lib.hid ((HK.out.here (n := wrap64 (sx.here + u)) (HK.out.wk.bx.setc 8 (.int .i64 (wrap64 (sx.here + u)))) (grown_setCell wr g 8 _)).then_below (bel_drewN _ 1))
              have hr := HR3.out
              unfold upsD at hr
              injection hr with ha hb
              subst ha hb
              rw [wrapW]
              first | go_end0 | (refine bodyPost_ret (results_none rfl _ _ _) rfl ?_)
              exact ⟨rfl, q1, HT9.out⟩
          --POOL
    · have he3 : e3 = e2 := by
        have h := HRM.out
        rw [roomD, if_neg (fun h => h0 h.1)] at h
        injection h with _ h
        exact h.symm
      subst he3
      go_upto_region 5 with fail
      go_quiet ((first | (go_at_call 25; refine quiet_sw (Ok_any g e3 false _ (by simpa using h0) ?_); exact HT3.out.wk.er) | (go_at_call 101; refine quiet_sw (Up_any _ u _ ?_); rw [HN.out]; exact HU.out)))
      have HT4 := Lib.hid (HT3.out.then_below (bel_drewN w3 nq))
      go_wp2_with fail
      go_loopw [75] (fun i wr => ∃ (j : Nat) (q1 : Ad) (sx : Ps) (ex : Int), i = .int .i64 j ∧ j ≤ n ∧ Hid (setsD t (n - j) j (sx, ex) = (s4, e4)) ∧ Hid (Td g w q s wr q1 sx x ex) ∧ Hid (sx.mem.length ≤ 1000000)) (fun i _ => n - (intOf i).toNat)
      case atStart => exact ⟨0, q3, s2, e3, rfl, by omega, HST, HT4, HML⟩
      case round =>
        obtain ⟨j, q1, sx, ex, rfl, hj, HS, HK, HLX⟩ := hrel
        by_cases hjn : j < n
        --LOOP
        · have hlt : (j : Int) < t.size := by rw [HN.out]; omega
          have hj0 : (0 : Int) ≤ j := by omega
          have hgt := get_bt t j (by omega)
          have hbr := bt_range t j
          have hwj : IntKind.i64.wrap ((j : Int) + 1) = (j : Int) + 1 := IntWalk.i64_in _ (by omega)
          go_wp2_with fail
          by_cases hx0 : ex = 0
          · subst hx0
            refine (Ok_any g 0 true wr rfl HK.out.wk.er).mono ?_
            rintro r wr2 ⟨rfl, rfl⟩
            have m0 := HK.out.wk.mem
            have m8 := HK.out.wk.here
            go_upto_region 11 with fail
            go_cut [5, 6] (fun a b wx => ∃ A c, a = .slice A (setB sx.mem (wrap64 (sx.here + j)) (bt t j)).length c ∧ b = .int .i64 (byteE sx.mem.length (wrap64 (sx.here + j))) ∧ Hid (Below wr.heap.size wr wx) ∧ Hid (wx.ownsRow wr.heap.size 5 1 (.slice A (setB sx.mem (wrap64 (sx.here + j)) (bt t j)).length c) (setB sx.mem (wrap64 (sx.here + j)) (bt t j)).length (nums .u8 (setB sx.mem (wrap64 (sx.here + j)) (bt t j)))))
            case first =>
              have hwb : IntKind.i64.wrap (bt t j) = bt t j := IntWalk.i64_in _ (by omega)
              have hwx : IntKind.i64.wrap (sx.here + (j : Int)) = wrap64 (sx.here + j) := wrapW _
              go_region_law (first
                | (go_simp; go_at_call 112; refine (SetByte_any q1.m q1.mc _ _ sx.mem wr.drew (HK.out.wk.rd.mem.below (Below.refl _ _).drew) (by have := HLX.out; omega)).mono ?_; rintro r w5 ⟨v5, rfl, ho, hb⟩))
              all_goals
                obtain ⟨A, c, hv, _⟩ := Rd.own ho
                subst hv
                have HO5 : Hid (w5.ownsRow wr.heap.size 5 1 (.slice A (setB sx.mem (wrap64 (sx.here + j)) (bt t j)).length c) (setB sx.mem (wrap64 (sx.here + j)) (bt t j)).length (nums .u8 (setB sx.mem (wrap64 (sx.here + j)) (bt t j)))) := Lib.hid ho
                have HB5 : Hid (Below wr.heap.size wr w5) := Lib.hid ((Below.refl _ _).drew.trans hb)
                clear ho hb
                go_wp2_with fail
                go_meet
                exact ⟨A, c, rfl, rfl, HB5, HO5⟩
            case rest =>
              obtain ⟨A, cA, rfl, rfl, HB5, HO5⟩ := hcut
              obtain ⟨w5, hW⟩ : ∃ W, W = wc := ⟨_, rfl⟩
              subst hW
              have HK5 := Lib.hid (HK.out.then_below HB5.out)
              have hgl := HK.out.wk.lt
              have hsz5 := HK.out.gr.size
              obtain ⟨m1, hm1⟩ : ∃ m1, setB sx.mem (wrap64 (sx.here + j)) (bt t j) = m1 := ⟨_, rfl⟩
              obtain ⟨f1, hf1⟩ : ∃ f1, byteE sx.mem.length (wrap64 (sx.here + j)) = f1 := ⟨_, rfl⟩
              have HNX : Hid (setsD t (n - (j + 1)) (j + 1) ({ sx with mem := m1 }, f1) = (s4, e4)) := Lib.hid (by
                have h := HS.out
                rw [setsD_step hjn, setD, if_pos rfl] at h
                simp only at h
                rw [hm1, hf1] at h
                exact h)
              have HM1 : Hid (m1.length ≤ 1000000) := Lib.hid (by rw [← hm1]; exact Nat.le_trans (setB_le _ _ _) HLX.out)
              have HMB : Hid (isB m1) := Lib.hid (by rw [← hm1]; exact isB_setD HK.out.wk.rd.memB _ _)
              rw [hm1] at HO5
              rw [hm1, hf1]
              clear hm1 hf1
              go_wp2_with fail
              refine (Fail_any g q1 sx x 0 f1 w5 HK5.out.wk).mono ?_
              rintro r w6 ⟨rfl, ht⟩
              have HK6 : Hid (Td g w q s w6 q1 sx x f1) := Lib.hid (HK5.out.trans ht)
              have HO6 : Hid (w6.ownsRow wr.heap.size 5 1 (.slice A m1.length cA) m1.length (nums .u8 m1)) := Lib.hid (own_keep HO5.out ht.gr hgl)
              clear ht
              go_wp2_with (refine wp_storeF rfl 22 _ _ rfl g 0 _ rfl rfl rfl 62 _ HK6.out.wk.bx 21 rfl (by decide) info1u ?_)
              intro w7 hg7 hw7
              have hO7 := own_keep HO6.out hw7 hgl
              have hab : 0 < m1.length → ∀ ad, A = some ad → wr.heap.size ≤ ad.block := own_block_ge hO7
              have HK7 : Hid (Td g w q s w7 { q1 with m := A, mc := cA } { sx with mem := m1 } x f1) := Lib.hid (by
                have hb : Bx w7 g 62 (wdL { q1 with m := A, mc := cA } { sx with mem := m1 } x f1) := hg7
                have hr := (HK6.out.wk.rd.grown HK6.out.wk.ls hw7 (fun h => h rfl)).withMem (own_rd hO7) HMB.out
                have hl := HK6.out.wk.ls
                refine ⟨⟨hb, hr, ⟨fun h0 ad e => ?_, hl.data, hl.ret, hl.ctl, hl.words, hl.spots, hl.out⟩⟩, fun S hS => ?_, HK6.out.gr.trans hw7⟩
                · have := hab h0 ad e
                  show ad.block ≠ g
                  omega
                · have h2 := HK6.out.lies S hS
                  refine ⟨fun h0 ad e => .inr ?_, h2.data, h2.ret, h2.ctl, h2.words, h2.spots, h2.out⟩
                  have := hab h0 ad e
                  omega)
              clear hg7 hw7 hO7 hab
              go_wp2
              go_roundw
              case rel => exact ⟨j + 1, _, _, f1, (by push_cast; rfl), by omega, HNX, HK7, HM1⟩
              case measure => simp [intOf]; omega
          · refine (Ok_any g ex false wr (by simpa using hx0) HK.out.wk.er).mono ?_
            rintro r wr2 ⟨rfl, rfl⟩
            have HNX : Hid (setsD t (n - (j + 1)) (j + 1) (sx, ex) = (s4, e4)) := Lib.hid (by
              have h := HS.out
              rw [setsD_step hjn, setD, if_neg hx0] at h
              exact h)
            go_wp2
            go_roundw
            case rel => exact ⟨j + 1, _, _, ex, (by push_cast; rfl), by omega, HNX, HK, HLX⟩
            case measure => simp [intOf]; omega
        · obtain rfl : j = n := by omega
          have hge : ¬ (j : Int) < t.size := by rw [HN.out]; omega
          have hs4 : (sx, ex) = (s4, e4) := by
            have h := HS.out
            rw [Nat.sub_self, setsD] at h
            exact h
          injection hs4 with ha hb
          subst ha hb
          have m8 := HK.out.wk.here
          have f8 := HK.out.wk.bx.free 8
          go_upto_region 15 with fail
          go_region_law (first
            | (go_simp; go_at_call 101; refine (Up_any _ u wr.drew (by first | exact HU.out | (rw [HN.out]; exact HU.out))).mono ?_; rintro r w9 ⟨rfl, rfl⟩))
          all_goals
            have HT9 := Lib.hid ((HK.out.here (n := wrap64 (sx.here + u)) (HK.out.wk.bx.setc 8 (.int .i64 (wrap64 (sx.here + u)))) (grown_setCell wr g 8 _)).then_below (bel_drewN _ 1))
            have hr := HR3.out
            unfold upsD at hr
            injection hr with ha hb
            subst ha hb
            rw [wrapW]
            first | go_end0 | (refine bodyPost_ret (results_none rfl _ _ _) rfl ?_)
            exact ⟨rfl, q1, HT9.out⟩
        --POOL
theorem Quote_go (g : Nat) (q : Ad) (s : Ps) (x : Sx) (e : Int) (s' : Ps) (e' : Int) (w : World) (hr : quoteD x (s, e) = (s', e')) (h : Dk w g q s x e) (hsz : x.src.size ≤ 200)
    (hm : s.mem.length ≤ 1000000) (hsp : s.spots.length ≤ 100000) (ho : s.out.length ≤ 100000) :
    Calls Tryz.prog 75 #[.pointer (some ⟨g, 0, none⟩)] w fun r w' => r = .returned (.tuple #[]) ∧ ∃ q', Td g w q s w' q' s' x e' := by
  cases hc : s.comp with
  | true => exact Quote_yes g q s x e s' e' w hr hc h hsz hm hsp ho
  | false => exact Quote_no g q s x e s' e' w hr hc h hsz hm hsp ho
end Go.Proofs.YtappfhjknihboaaGreatDoor
