/-  -/
import Derived.Test.YtfkkmlgblhnkaaaDoorFlow11

/- The closures of flow.table that load what they captured, or take two pairs. -/
namespace Go.Proofs.YtfkkmlgblhnkaaaDoor
open Go.RowKit

theorem info2i : (Tryd.prog.info? 80).map (·.size) = some 2 := by kernel_rfl

set_option maxRecDepth 100000 in
set_option maxHeartbeats 2000000 in
theorem Back_any (g : Nat) (op : Int) (b : Nat) (q : Ad) (s : Ps) (e : Int) (s' : Ps) (e' : Int) (w : World) (hb : b ≠ g) (hc : w.cell? ⟨b, 0, none⟩ = some (.int .i64 op)) (hr : backW (s, e) op = (s', e')) (h : Wk w g q s e) (hz : Sz s 100000) :
    Calls Tryd.prog 38 #[.pointer (some ⟨g, 0, none⟩), .pointer (some ⟨b, 0, none⟩)] w fun r w' => r = .returned (.tuple #[]) ∧ ∃ q', To g w q s w' q' s' e' := by
  obtain ⟨v1, hv1⟩ : ∃ v, popV (s, e) 2 = v := ⟨_, rfl⟩
  obtain ⟨s1, e1, hx1⟩ : ∃ a b, popW (s, e) 2 = (a, b) := ⟨_, _, rfl⟩
  have hz1 : Sz s1 100000 := by have := popW_sz (x := (s, e)) (kind := 2) hz; rw [hx1] at this; exact this
  unfold backW at hr
  rw [hv1, hx1] at hr
  have H := Lib.hid h
  have HV := Lib.hid hv1
  have HX := Lib.hid hx1
  have HR := Lib.hid hr
  have hz0 := hz
  have HD := Lib.hid (h.below (Below.refl _ w).drew)
  clear h hv1 hx1 hr
  go_enter Tryd.func38, Tryd.ntmps38
  go_wp2_with fail
  go_region_law (first
    | (go_simp; go_at_call 40; refine (Pop_any g 2 q s e v1 s1 e1 w.drew HV.out HX.out HD.out (by have := hz0.2.2; omega)).mono ?_; rintro r w1 ⟨rfl, q1, ht⟩; have hc1 : w1.cell? ⟨b, 0, none⟩ = some (.int .i64 op) := ht.gr.cell (show w.drew.cell? ⟨b, 0, none⟩ = _ from hc) (fun e => hb (by injection e)))
    | (go_simp; go_at_call 39; refine (Lay_any g op v1 q1 s1 e1 s' e' w1 HR.out ht.wk (by have := hz1.1; omega) (by have := hz1.2.1; omega)).mono ?_; rintro r w2 ⟨rfl, q2, ht2⟩))
  all_goals
    have HT := Lib.hid (To.of_below (Below.refl _ w).drew (ht.trans ht2))
    clear ht ht2 hc1
    go_wp2
    first | go_end0 | go_ret
    exact ⟨rfl, q2, HT.out⟩

theorem ix0 (x y : Int) (w : World) : (Instr.index 80 (.agg #[.int .i64 x, .int .i64 y]) (.int .i64 0)).run Tryd.prog w = .ok (.int .i64 x) w := by
  have u := Tryd.underlying80
  have hs := Tryd.sizeOf3 w
  have ha := Tryd.isAgg3 w
  simp [Instr.index, run_underlying u, asIntOf, part, hs, ha, Result.andThen]
theorem ix1 (x y : Int) (w : World) : (Instr.index 80 (.agg #[.int .i64 x, .int .i64 y]) (.int .i64 1)).run Tryd.prog w = .ok (.int .i64 y) w := by
  have u := Tryd.underlying80
  have hs := Tryd.sizeOf3 w
  have ha := Tryd.isAgg3 w
  simp [Instr.index, run_underlying u, asIntOf, part, hs, ha, Result.andThen]
def StP (s : Ps) (e v1 : Int) (s1 : Ps) (e1 v2 : Int) (s2 : Ps) (e2 : Int) (j : Nat) (sx : Ps) (ex a b : Int) : Prop :=
  (j = 0 ∧ sx = s ∧ ex = e ∧ a = 0 ∧ b = 0) ∨ (j = 1 ∧ sx = s1 ∧ ex = e1 ∧ a = v1 ∧ b = 0) ∨ (j = 2 ∧ sx = s2 ∧ ex = e2 ∧ a = v1 ∧ b = v2)

set_option maxRecDepth 100000 in
set_option maxHeartbeats 2000000 in
theorem Pops_any (g : Nat) (k0 k1 : Int) (q : Ad) (s : Ps) (e : Int) (v1 : Int) (s1 : Ps) (e1 : Int) (v2 : Int) (s2 : Ps) (e2 : Int) (w : World) (hv1 : popV (s, e) k0 = v1) (hx1 : popW (s, e) k0 = (s1, e1)) (hv2 : popV (s1, e1) k1 = v2) (hx2 : popW (s1, e1) k1 = (s2, e2)) (h : Wk w g q s e) (hz : Sz s 100000) :
    Calls Tryd.prog 55 #[.pointer (some ⟨g, 0, none⟩), .agg #[.int .i64 k0, .int .i64 k1]] w fun r w' => r = .returned (.agg #[.int .i64 v1, .int .i64 v2]) ∧ ∃ q', To g w q s w' q' s2 e2 := by
  have hz1 : Sz s1 100000 := by have := popW_sz (x := (s, e)) (kind := k0) hz; rw [hx1] at this; exact this
  have H := Lib.hid h
  have HV1 := Lib.hid hv1
  have HX1 := Lib.hid hx1
  have HV2 := Lib.hid hv2
  have HX2 := Lib.hid hx2
  have hz0 := hz
  have hg := h.lt
  have HLS : Hid (Lies q s (fun b => b < w.heap.size ∧ b ≠ g)) := Lib.hid (by
    have h1 := h.rd.lies
    have h2 := h.ls
    exact ⟨fun a b c => ⟨h1.mem a b c, h2.mem a b c⟩, fun a b c => ⟨h1.data a b c, h2.data a b c⟩, fun a b c => ⟨h1.ret a b c, h2.ret a b c⟩, fun a b c => ⟨h1.ctl a b c, h2.ctl a b c⟩, fun a b c => ⟨h1.words a b c, h2.words a b c⟩, fun a b c => ⟨h1.spots a b c, h2.spots a b c⟩, fun a b c => ⟨h1.out a b c, h2.out a b c⟩⟩)
  clear h hv1 hx1 hv2 hx2
  have hg2 : g < w.heap.size + 2 := by omega
  have HB0 : Hid (Bx (((w.alloc (.cells #[.int .i64 k0, .int .i64 k1] 80)).alloc (.cells #[.int .i64 0, .int .i64 0] 80)).alloc (.cells #[.int .i64 0, .int .i64 0] 80)) (w.heap.size + 2) 80 [.int .i64 0, .int .i64 0]) := Lib.hid (Bx.new _ _ _ _ _ (by simp) rfl)
  have HC0 : Hid (Bx (((w.alloc (.cells #[.int .i64 k0, .int .i64 k1] 80)).alloc (.cells #[.int .i64 0, .int .i64 0] 80)).alloc (.cells #[.int .i64 0, .int .i64 0] 80)) (w.heap.size + 1) 80 [.int .i64 0, .int .i64 0]) := Lib.hid ((Bx.new _ _ _ _ _ (by simp) rfl).alloc _)
  have HBE := Lib.hid (below_two (below_two (below_lit w (.cells #[.int .i64 k0, .int .i64 k1] 80)) (below_lit _ (.cells #[.int .i64 0, .int .i64 0] 80))) (below_lit _ (.cells #[.int .i64 0, .int .i64 0] 80)))
  have HW0 := Lib.hid (H.out.below HBE.out)
  have HG0 := Lib.hid (grown_of_below (g := g) HBE.out)
  go_enter Tryd.func55, Tryd.ntmps55
  go_wp2_with fail
  go_loopw [12] (fun i wr => ∃ (j : Nat) (q1 : Ad) (sx : Ps) (ex a b : Int), i = .int .i64 j ∧ j ≤ 2 ∧ Hid (StP s e v1 s1 e1 v2 s2 e2 j sx ex a b) ∧ Hid (Wk wr g q1 sx ex) ∧ Hid (Lies q1 sx (fun b => b < w.heap.size ∧ b ≠ g)) ∧ Hid (∀ S, Lies q s S → Lies q1 sx S) ∧ Hid (w.grownBy wr (some g)) ∧ Hid (Bx wr (w.heap.size + 2) 80 [.int .i64 a, .int .i64 b]) ∧ Hid (Bx wr (w.heap.size + 1) 80 [.int .i64 0, .int .i64 0])) (fun i _ => 2 - (intOf i).toNat)
  case atStart => exact ⟨0, q, s, e, 0, 0, rfl, by omega, Lib.hid (by unfold StP; simp), HW0, HLS, Lib.hid (fun _ h => h), HG0, HB0, HC0⟩
  case round =>
    obtain ⟨j, q1, sx, ex, a, b, rfl, hj, HST, HW, HL, HM, HG, HB, HC⟩ := hrel
    have hst := HST.out
    unfold StP at hst
    have hi0 := ix0 k0 k1 wr
    have hi1 := ix1 k0 k1 wr
    rcases hst with ⟨rfl, rfl, rfl, rfl, rfl⟩ | ⟨rfl, rfl, rfl, rfl, rfl⟩ | ⟨rfl, rfl, rfl, rfl, rfl⟩
    · go_wp2_with fail
      refine (Pop_any2 g k0 q1 sx ex v1 s1 e1 wr HV1.out HX1.out HW.out (by have := hz0.2.2; omega)).mono ?_
      rintro r w5 ⟨rfl, q5, ht, hls⟩
      have HW5 := Lib.hid ht.wk
      have HG5 := Lib.hid (HG.out.trans ht.gr)
      have HB5 := Lib.hid (HB.out.grown ht.gr (by omega))
      have HC5 := Lib.hid (HC.out.grown ht.gr (by omega))
      have HL5 := Lib.hid (hls _ HL.out)
      have HM5 := Lib.hid (fun S hS => hls S (HM.out S hS))
      clear ht hls
      go_wp2_with (refine wp_storeF rfl 3 _ _ rfl (w.heap.size + 2) 0 _ rfl rfl rfl 80 _ HB5.out 2 rfl (by decide) info1i ?_)
      intro w6 hg6 hw6
      have HB6 : Hid (Bx w6 (w.heap.size + 2) 80 [.int .i64 v1, .int .i64 0]) := Lib.hid hg6
      have HC6 := Lib.hid (HC5.out.grown hw6 (by omega))
      have HW6 := Lib.hid (HW5.out.grown hw6 (by omega) (HL5.out.mono (fun b hb => by omega)))
      have HG6 : Hid (w.grownBy w6 (some g)) := Lib.hid ⟨hw6.os.trans HG5.out.os, hw6.tape.trans HG5.out.tape, hw6.output.trans HG5.out.output, Nat.le_trans HG5.out.size hw6.size, fun k hk hne => (hw6.block k (by have := HG5.out.size; omega) (fun e => by injection e with e; omega)).trans (HG5.out.block k hk hne)⟩
      clear hg6 hw6
      go_wp2
      go_roundw
      case rel => exact ⟨1, q5, s1, e1, _, _, rfl, by omega, Lib.hid (by unfold StP; simp), HW6, HL5, HM5, HG6, HB6, HC6⟩
      case measure => simp [intOf]
    · go_wp2_with fail
      refine (Pop_any2 g k1 q1 sx ex v2 s2 e2 wr HV2.out HX2.out HW.out (by have := hz1.2.2; omega)).mono ?_
      rintro r w5 ⟨rfl, q5, ht, hls⟩
      have HW5 := Lib.hid ht.wk
      have HG5 := Lib.hid (HG.out.trans ht.gr)
      have HB5 := Lib.hid (HB.out.grown ht.gr (by omega))
      have HC5 := Lib.hid (HC.out.grown ht.gr (by omega))
      have HL5 := Lib.hid (hls _ HL.out)
      have HM5 := Lib.hid (fun S hS => hls S (HM.out S hS))
      clear ht hls
      go_wp2_with (refine wp_storeF rfl 3 _ _ rfl (w.heap.size + 2) 1 _ rfl rfl rfl 80 _ HB5.out 2 rfl (by decide) info1i ?_)
      intro w6 hg6 hw6
      have HB6 : Hid (Bx w6 (w.heap.size + 2) 80 [.int .i64 a, .int .i64 v2]) := Lib.hid hg6
      have HC6 := Lib.hid (HC5.out.grown hw6 (by omega))
      have HW6 := Lib.hid (HW5.out.grown hw6 (by omega) (HL5.out.mono (fun b hb => by omega)))
      have HG6 : Hid (w.grownBy w6 (some g)) := Lib.hid ⟨hw6.os.trans HG5.out.os, hw6.tape.trans HG5.out.tape, hw6.output.trans HG5.out.output, Nat.le_trans HG5.out.size hw6.size, fun k hk hne => (hw6.block k (by have := HG5.out.size; omega) (fun e => by injection e with e; omega)).trans (HG5.out.block k hk hne)⟩
      clear hg6 hw6
      go_wp2
      go_roundw
      case rel => exact ⟨2, q5, s2, e2, _, _, rfl, by omega, Lib.hid (by unfold StP; simp), HW6, HL5, HM5, HG6, HB6, HC6⟩
      case measure => simp [intOf]
    · go_wp2_with (first
        | (refine wp_loadS rfl 80 _ rfl (w.heap.size + 2) rfl 80 _ _ HB.out Tryd.underlying80 rfl 2 info2i rfl ?_)
        | (refine wp_storeS rfl 80 _ _ rfl (w.heap.size + 1) _ rfl rfl 80 _ HC.out 2 info2i rfl rfl rfl ?_))
      intro w6 hg6 hw6
      have HW6 := Lib.hid (HW.out.grown hw6 (by omega) (HL.out.mono (fun b hb => by omega)))
      have HG6 : Hid (w.grownBy w6 (some g)) := Lib.hid ⟨hw6.os.trans HG.out.os, hw6.tape.trans HG.out.tape, hw6.output.trans HG.out.output, Nat.le_trans HG.out.size hw6.size, fun k hk hne => (hw6.block k (by have := HG.out.size; omega) (fun e => by injection e with e; omega)).trans (HG.out.block k hk hne)⟩
      have HC6 := Lib.hid hg6
      clear hg6 hw6
      go_wp2
      refine bodyPost_ret (results_cell_row rfl _ _ (w.heap.size + 1) 80 _ (0, 0) _ rfl HC6.out Tryd.underlying80 rfl info2i) rfl ?_
      exact ⟨rfl, q1, HW6.out, fun S hS => (HM.out S hS).mono (fun _ h => .inl h), HG6.out⟩
end Go.Proofs.YtfkkmlgblhnkaaaDoor


/- REPEAT, RECURSE. -/
namespace Go.Proofs.YtfkkmlgblhnkaaaDoor
open Go.RowKit

set_option maxRecDepth 100000 in
set_option maxHeartbeats 2000000 in
theorem Repeat_any (g : Nat) (q : Ad) (s : Ps) (e : Int) (s' : Ps) (e' : Int) (w : World) (hr : repeatW (s, e) = (s', e')) (h : Wk w g q s e) (hz : Sz s 100000) :
    Calls Tryd.prog 54 #[.pointer (some ⟨g, 0, none⟩)] w fun r w' => r = .returned (.tuple #[]) ∧ ∃ q', To g w q s w' q' s' e' := by
  obtain ⟨v1, hv1⟩ : ∃ v, popV (s, e) 2 = v := ⟨_, rfl⟩
  obtain ⟨s1, e1, hx1⟩ : ∃ a b, popW (s, e) 2 = (a, b) := ⟨_, _, rfl⟩
  have hz1 : Sz s1 100000 := by have := popW_sz (x := (s, e)) (kind := 2) hz; rw [hx1] at this; exact this
  obtain ⟨v2, hv2⟩ : ∃ v, popV (s1, e1) 1 = v := ⟨_, rfl⟩
  obtain ⟨s2, e2, hx2⟩ : ∃ a b, popW (s1, e1) 1 = (a, b) := ⟨_, _, rfl⟩
  have hz2 : Sz s2 100000 := by have := popW_sz (x := (s1, e1)) (kind := 1) hz1; rw [hx2] at this; exact this
  obtain ⟨s3, e3, hx3⟩ : ∃ a b, layW (s2, e2) 3 v1 = (a, b) := ⟨_, _, rfl⟩
  have hz3 : Sz s3 100002 := by have := layW_sz (x := (s2, e2)) (op := 3) (v := v1) hz2; rw [hx3] at this; exact this
  unfold repeatW at hr
  rw [hv1, hx1, hv2, hx2, hx3] at hr
  have H := Lib.hid h
  have HP := Lib.hid (Pops_any g 2 1 q s e v1 s1 e1 v2 s2 e2 w hv1 hx1 hv2 hx2 h hz)
  have HX3 := Lib.hid hx3
  have HR := Lib.hid hr
  have hg := h.lt
  clear h hv1 hx1 hv2 hx2 hx3 hr
  go_enter Tryd.func54, Tryd.ntmps54
  go_wp2_with fail
  refine HP.out.mono ?_
  rintro r w1 ⟨rfl, q1, ht⟩
  have HT := Lib.hid ht
  have hs1 := ht.gr.size
  have HA := Lib.hid (Bx.new w1 80 [.int .i64 0, .int .i64 0] #[.int .i64 0, .int .i64 0] w1.heap.size rfl rfl)
  have HT1 := Lib.hid (ht.wk.below (below_lit w1 (.cells #[.int .i64 0, .int .i64 0] 80)))
  have HBL := Lib.hid (below_lit w1 (.cells #[.int .i64 0, .int .i64 0] 80))
  have HLS1 := Lib.hid (ht.wk.rd.lies)
  clear ht
  go_wp2_with (refine wp_storeS rfl 80 _ _ rfl w1.heap.size [.int .i64 v1, .int .i64 v2] rfl rfl 80 _ HA.out 2 info2i rfl rfl rfl ?_)
  intro w2 hg2 hw2
  have HA2 := Lib.hid hg2
  have HW2 := Lib.hid (HT1.out.grown hw2 (by omega) (HLS1.out.mono (fun b hb => by omega)))
  have HB2 : Hid (Below w1.heap.size w1 w2) := Lib.hid (below_grown HBL.out HBL.out.size hw2 (Nat.le_refl _))
  have hk0 : w2.cell? ⟨w1.heap.size, 0, none⟩ = some (.int .i64 v1) := hg2.cell 0
  clear hg2 hw2
  go_wp2_with fail
  refine (Lay_any g 3 v1 q1 s2 e2 s3 e3 w2 HX3.out HW2.out (by have := hz2.1; omega) (by have := hz2.2.1; omega)).mono ?_
  rintro r w3 ⟨rfl, q3, ht3⟩
  have HT3 := Lib.hid ht3
  have hk1 : w3.cell? ⟨w1.heap.size, 1, none⟩ = some (.int .i64 v2) := ht3.gr.cell (HA2.out.cell 1) (fun e => by injection e with e; have e : w1.heap.size = g := e; omega)
  clear ht3 hk0
  go_wp2_with fail
  refine (Settle_any g v2 q3 s3 e3 s' e' w3 HR.out HT3.out.wk (by have := hz3.1; omega)).mono ?_
  rintro r w4 ⟨rfl, q4, ht4⟩
  have HT4 := Lib.hid (HT.out.trans (To.of_below HB2.out (HT3.out.trans ht4)))
  clear ht4 hk1
  go_wp2
  first | go_end0 | go_ret
  exact ⟨rfl, q4, HT4.out⟩

theorem recurse_no {s : Ps} {e : Int} {s' : Ps} {e' : Int} (hr : recurseW (s, e) = (s', e')) (hn : s.words = []) : (if e = 0 then (zeroP, -22) else (s, e)) = (s', e') := by
  unfold recurseW at hr
  simpa [hn] using hr
theorem recurse_at {s : Ps} {e : Int} {s' : Ps} {e' : Int} {K : Nat} (hr : recurseW (s, e) = (s', e')) (hn : s.words.length = K + 1) :
    (if (s.words[K]!).hid = true then (if e = 0 then (emitS s [(s.words[K]!).code], emitE s [(s.words[K]!).code]) else (s, e)) else (if e = 0 then (zeroP, -22) else (s, e))) = (s', e') := by
  unfold recurseW at hr
  have : s.words.getLast? = some s.words[K]! := by
    rw [List.getLast?_eq_getElem?, hn, Nat.add_sub_cancel, List.getElem?_eq_getElem (by omega), getElem!_pos s.words K (by omega)]
  simp only [this] at hr
  exact hr

set_option maxRecDepth 100000 in
set_option maxHeartbeats 4000000 in
theorem Recurse_any (g : Nat) (q : Ad) (s : Ps) (e : Int) (s' : Ps) (e' : Int) (w : World) (hr : recurseW (s, e) = (s', e')) (h : Wk w g q s e) (h00 : e = 0) (hz : Sz s 100000) (hwl : s.words.length ≤ 1000000) :
    Calls Tryd.prog 56 #[.pointer (some ⟨g, 0, none⟩)] w fun r w' => r = .returned (.tuple #[]) ∧ ∃ q', To g w q s w' q' s' e' := by
  subst h00
  have H := Lib.hid h
  obtain ⟨n, hn⟩ : ∃ n, s.words.length = n := ⟨_, rfl⟩
  have c4 := h.words
  have hg := h.lt
  rw [hn] at c4 hwl
  have miss : ∀ (w : World), Wk w g q s 0 → Calls Tryd.prog 57 #[.pointer (some ⟨g, 0, none⟩), stV nilA zeroP, .int .i64 (-22)] w fun r w' => r = .returned (.tuple #[]) ∧ To g w q s w' nilA zeroP (-22) := fun w h => (Keep_yes g q s nilA zeroP (-22) w h (RdP.zero w) (Lies.zero _)).mono (by rintro r w2 ⟨rfl, hw, hgr⟩; exact ⟨rfl, zero_keep hw hgr⟩)
  have HM := Lib.hid miss
  clear miss
  by_cases h0 : n = 0
  · subst h0
    have hr2 := recurse_no hr (List.eq_nil_of_length_eq_zero hn)
    rw [if_pos rfl] at hr2
    injection hr2 with h1 h2
    subst h1 h2
    clear h hr hn
    go_enter Tryd.func56, Tryd.ntmps56
    go_wp2_with fail
    refine (HM.out w H.out).mono ?_
    rintro r w1 ⟨rfl, ht⟩
    have HT := Lib.hid ht
    clear ht c4
    go_wp2
    first | go_end0 | refine bodyPost_ret (results_none rfl _ _ _) rfl ?_
    exact ⟨rfl, _, HT.out⟩
  · obtain ⟨K, hK⟩ : ∃ K, n = K + 1 := ⟨n - 1, by omega⟩
    have hr2 := recurse_at hr (by rw [hn, hK])
    obtain ⟨ad, hA, hcell⟩ := RdE.all encW_len (by decide) h.rd.words (by rw [hn]; omega)
    have k1 := hcell.at' (j := K) (by rw [hn]; omega) 1 (by decide) (v := .int .i64 (s.words[K]!).code) rfl
    have k3 := hcell.at' (j := K) (by rw [hn]; omega) 3 (by decide) (v := .bool (s.words[K]!).hid) rfl
    obtain ⟨u, hu⟩ : ∃ u, s.words[K]! = u := ⟨_, rfl⟩
    rw [hu] at hr2 k1 k3
    rw [hA] at c4
    have eK : (n : Int) - 1 = (K : Int) := by omega
    have b0 : ¬ (K : Int) < 0 := by omega
    have b1 : (0 : Int) ≤ (K : Int) := by omega
    have b2 : (K : Int) < (n : Int) := by omega
    obtain ⟨nm, code, now, hid⟩ := u
    simp only at hr2 k1 k3
    cases hid with
    | false =>
      rw [if_neg (by decide), if_pos trivial] at hr2
      injection hr2 with h1 h2
      subst h1 h2
      clear h hr hn hA hcell hu hK
      go_enter Tryd.func56, Tryd.ntmps56
      go_wp2_with fail
      refine (HM.out w H.out).mono ?_
      rintro r w1 ⟨rfl, ht⟩
      have HT := Lib.hid ht
      clear ht c4 k1 k3
      go_wp2
      first | go_end0 | refine bodyPost_ret (results_none rfl _ _ _) rfl ?_
      exact ⟨rfl, _, HT.out⟩
    | true =>
      rw [if_pos trivial, if_pos trivial] at hr2
      injection hr2 with h1 h2
      have HR1 := Lib.hid h1
      have HR2 := Lib.hid h2
      obtain ⟨z0, z1, z2, z3, z4, z5, z6, z7, z8, z9, z10, z11, z12, z13, z14⟩ := h.z15
      rw [hn, hA] at z4
      clear c4
      have hbl := below_lit w (.cells #[.int .i64 code] 3)
      obtain ⟨y0, y1, y2, y3, y4, y5, y6, y7, y8, y9, y10, y11, y12, y13, y14⟩ := (h.below hbl).z15
      rw [hn, hA] at y4
      have l1 := (hbl.cell (World.block_lt_of_cell? w _ k1)).trans k1
      have HBL : Hid (Below w.heap.size w (w.alloc (.cells #[.int .i64 code] 3)).drew) := Lib.hid hbl.drew
      have HX : Hid (RdI (w.alloc (.cells #[.int .i64 code] 3)).drew .i64 (some ⟨w.heap.size, 0, none⟩) 1 [code]) := Lib.hid (Rd.below (rd_alloc w (nums .i64 [code]) #[.int .i64 code] 3 (0, 0) 1 1 1 rfl rfl (by decide) (by decide)) (Below.refl _ _).drew)
      have he := Emit_any q s _ 1 1 [code] s' e' _ rfl h1 h2 (h.rd.below HBL.out) HX.out (by have := hz.1; omega) (by have := hz.2.1; omega)
      rw [stV_eq q s, hn, hA] at he
      have HE := Lib.hid he
      clear he
      clear hbl
      clear h hr hn hcell hu hK h1 h2
      go_enter Tryd.func56, Tryd.ntmps56
      go_wp2_with fail
      go_region_law (first
        | (go_simp; go_at_call 58; with_reducible refine HE.out.mono ?_; rintro r w2 ⟨q2, rfl, hr, hb⟩; have hb2 : Below w.heap.size w w2 := below_two HBL.out hb)
        | (go_simp; go_at_call 57; refine (Keep_yes g q s q2 s' e' w2 (H.out.below hb2) hr.rd ((hr.lies _ H.out.ls).mono (fun b hb => hb.elim id (fun hb => by simp at hb; omega)))).mono ?_; rintro r w3 ⟨rfl, hw, hgr⟩))
      all_goals
        have HO := Lib.hid (show To g w q s w3 q2 s' e' from ⟨hw, fun S hS => (hr.lies S hS).mono (fun b hb => hb.imp id (fun hb => by simp at hb; omega)), (grown_of_below hb2).trans hgr⟩)
        clear hw hgr hr hb hb2 z0 z1 z2 z3 z4 z5 z6 z7 z8 z9 z10 z11 z12 z13 z14 y0 y1 y2 y3 y4 y5 y6 y7 y8 y9 y10 y11 y12 y13 y14 l1 k1 k3
        go_wp2
        first | go_end0 | refine bodyPost_ret (results_none rfl _ _ _) rfl ?_
        exact ⟨rfl, q2, HO.out⟩
end Go.Proofs.YtfkkmlgblhnkaaaDoor
