
/- The reference's end. -/
import Derived.Test.YtappfhjknihboaaGreatDoorMP
namespace Go.Proofs.YtappfhjknihboaaGreatDoor
open Go.RowKit

theorem ixA_run (ad : Addr) (n c m : Nat) (w : World) (h : m < n) : (Instr.indexAt 25 (.slice (some ad) n c) (.int .i64 m)).run Tryz.prog w = .ok (.pointer (some (ad.add (m * 4)))) w := by
  have h0 : (0 : Int) ≤ m := by omega
  have h1 : (m : Int) < n := by omega
  go_simp
theorem fdA_run (p : Addr) (j : Nat) (hj : j < 4) (w : World) : (Instr.fieldAt 47 (.pointer (some p)) j).run Tryz.prog w = .ok (.pointer (some (p.add j))) w := by
  rcases j with _ | _ | _ | _ | j
  · go_simp
  · go_simp
  · go_simp
  · go_simp
  · omega
theorem fd4_run (g : Nat) (v : World) : (Instr.fieldAt 28 (.pointer (some ⟨g, 0, none⟩)) 4).run Tryz.prog v = .ok (.pointer (some ⟨g, 4, none⟩)) v := by kernel_rfl
theorem sub1_run (n m : Nat) (h : n = m + 1) (hb : m < 1000000) (w : World) : (binOp .sub 3 (.int .i64 n) (.int .i64 1)).run Tryz.prog w = .ok (.int .i64 m) w := by
  subst h
  have hwm : IntKind.i64.wrap (m : Int) = m := IntWalk.i64_in _ (by omega)
  have hwm2 : IntKind.i64.wrap ((m : Int) + 1 - 1) = m := by rw [show ((m : Int) + 1 - 1) = m by omega]; exact hwm
  go_simp
theorem add_blk (a : Addr) (k : Nat) : (a.add k).block = a.block := by
  unfold Addr.add
  split <;> rfl
theorem endD_fin (s : Ps) : fin (endD (s, 0)) = if badE s then (zeroP, -22) else if emitE s [1] = 0 then ({ emitS s [1] with words := turnL hidF (emitS s [1]).words, comp := false }, 0) else (zeroP, emitE s [1]) := by
  unfold endD endY
  simp only
  by_cases hb : badE s = true
  · rw [if_pos hb, if_pos hb]
    have h : thr 0 (-22) = -22 := rfl
    rw [h, emitD_no (by decide), lastD_no (by decide)]
    unfold fin
    rw [if_neg (show ¬ (-22 : Int) = 0 by decide)]
  · rw [if_neg hb, if_neg hb]
    unfold emitD
    rw [if_pos rfl]
    simp only
    by_cases h0 : emitE s [1] = 0
    · rw [if_pos h0, if_pos h0]
      unfold lastD
      rw [if_pos rfl]
      unfold fin
      rw [if_pos rfl]
    · rw [if_neg h0, if_neg h0, lastD_no h0]
      unfold fin
      rw [if_neg h0]
set_option maxRecDepth 100000 in
set_option maxHeartbeats 4000000 in
theorem REnd_go (q : Ad) (s : Ps) (s' : Ps) (e' : Int) (w : World) (hr : fin (endD (s, 0)) = (s', e')) (hp : RdP w q s) (hm : s.mem.length ≤ 1000000) (hsp : s.spots.length ≤ 100000) (hl : s.words.length ≤ 999999) :
    Calls Tryz.prog 78 #[stV q s] w fun e w' => ∃ q', e = .returned (.tuple #[stV q' s', .int .i64 e']) ∧ Res w.heap.size q s w' q' s' ∧ Below w.heap.size w w' := by
  rw [endD_fin] at hr
  have HR := Lib.hid hr
  clear hr
  have hB0 := below_two (below_lit w (.cells (stL q s).toArray 28)) (below_lit _ (.cells (stL nilA zeroP).toArray 28))
  have hS : Bx ((w.alloc (.cells (stL q s).toArray 28)).alloc (.cells (stL nilA zeroP).toArray 28)) w.heap.size 28 (stL q s) := (Bx.new w _ _ _ _ rfl rfl).alloc _
  have hR : Bx ((w.alloc (.cells (stL q s).toArray 28)).alloc (.cells (stL nilA zeroP).toArray 28)) (w.heap.size + 1) 28 (stL nilA zeroP) := Bx.new _ _ _ _ _ (by simp) rfl
  obtain ⟨W, hW⟩ : ∃ W, ((w.alloc (.cells #[.slice q.m s.mem.length q.mc, .slice q.d s.data.length q.dc, .slice q.r s.ret.length q.rc, .slice q.c s.ctl.length q.cc, .slice q.w s.words.length q.wc, .slice q.s s.spots.length q.sc, .slice q.o s.out.length q.oc, .int .i64 s.ip, .int .i64 s.here, .int .i64 s.pos, .int .i64 s.tok, .int .i64 s.inp, .int .i64 s.err, .bool s.comp, .bool s.halt] 28)).alloc (.cells #[.slice none 0 0, .slice none 0 0, .slice none 0 0, .slice none 0 0, .slice none 0 0, .slice none 0 0, .slice none 0 0, .int .i64 0, .int .i64 0, .int .i64 0, .int .i64 0, .int .i64 0, .int .i64 0, .bool false, .bool false] 28)) = W := ⟨_, rfl⟩
  have HB0 : Hid (Below w.heap.size w W) := Lib.hid (by rw [← hW]; exact hB0)
  have HA0 : Hid (Bx W w.heap.size 28 (stL q s)) := Lib.hid (by rw [← hW]; exact hS)
  have HR0 : Hid (Bx W (w.heap.size + 1) 28 (stL nilA zeroP)) := Lib.hid (by rw [← hW]; exact hR)
  have HP : Hid (RdP w q s) := Lib.hid hp
  have HWW := Lib.hid hW
  clear hp hB0 hS hR hW
  rw [stV_eq q s]
  go_enter Tryz.func78, Tryz.ntmps78
  go_upto_region 1 with fail
  rw [HWW.out]
  have c3 : W.cell? ⟨w.heap.size, 3, none⟩ = some (.slice q.c s.ctl.length q.cc) := HA0.out.cell 3
  have c4 : W.cell? ⟨w.heap.size, 4, none⟩ = some (.slice q.w s.words.length q.wc) := HA0.out.cell 4
  have hle := HP.out.words.le
  have hcp := HP.out.words.cap
  unfold maxLen at hcp
  have hW2 : w.heap.size + 1 < W.heap.size := HR0.out.lt
  obtain ⟨nc, hnc⟩ : ∃ n, s.ctl.length = n := ⟨_, rfl⟩
  cases hbad : badE s with
  | true =>
    have hr := HR.out
    rw [if_pos hbad] at hr
    injection hr with ha hb
    subst ha hb
    have hcases : 0 < s.ctl.length ∨ (¬ 0 < s.ctl.length ∧ s.words.length = 0) ∨ (¬ 0 < s.ctl.length ∧ ¬ s.words.length = 0 ∧ (s.words[s.words.length - 1]!).hid = false) := by
      unfold badE at hbad
      simp only [Bool.or_eq_true, decide_eq_true_eq, Bool.not_eq_true'] at hbad
      by_cases h1 : 0 < s.ctl.length
      · exact .inl h1
      · by_cases h2 : s.words.length = 0
        · exact .inr (.inl ⟨h1, h2⟩)
        · exact .inr (.inr ⟨h1, h2, (hbad.resolve_left h1).resolve_left h2⟩)
    clear hbad
    rcases hcases with h1 | ⟨h1, h2⟩ | ⟨h1, h2, h3⟩
    · rw [hnc] at h1 c3
      clear hnc
      go_wp2_with (refine wp_storeS rfl 28 _ _ rfl (w.heap.size + 1) (stL nilA zeroP) rfl rfl 28 _ HR0.out 15 infoSt rfl rfl rfl ?_)
      intro w4 hg4 hw4
      have HG := Lib.hid hg4
      have HB4 := Lib.hid (below_grown HB0.out HB0.out.size hw4 (by omega))
      clear hg4 hw4
      go_wp2
      refine bodyPost_ret (results_S Tryz.results78 _ _ (w.heap.size + 1) 28 _ _ rfl HG.out Tryz.underlying28 rfl 15 infoSt rfl _ rfl) rfl ?_
      exact ⟨nilA, rfl, Res.zero _ _ _ _, HB4.out⟩
    · rw [hnc] at h1 c3
      rw [h2] at c4
      clear hnc
      go_wp2_with (refine wp_storeS rfl 28 _ _ rfl (w.heap.size + 1) (stL nilA zeroP) rfl rfl 28 _ HR0.out 15 infoSt rfl rfl rfl ?_)
      intro w4 hg4 hw4
      have HG := Lib.hid hg4
      have HB4 := Lib.hid (below_grown HB0.out HB0.out.size hw4 (by omega))
      clear hg4 hw4
      go_wp2
      refine bodyPost_ret (results_S Tryz.results78 _ _ (w.heap.size + 1) 28 _ _ rfl HG.out Tryz.underlying28 rfl 15 infoSt rfl _ rfl) rfl ?_
      exact ⟨nilA, rfl, Res.zero _ _ _ _, HB4.out⟩
    · rw [hnc] at h1 c3
      obtain ⟨m, hmm⟩ : ∃ m, s.words.length = m + 1 := ⟨s.words.length - 1, by omega⟩
      obtain ⟨ad, hA, hcw⟩ := RdE.all encW_len (by decide) (HP.out.below HB0.out).words (by omega)
      have hc3 := hcw.at' (show m < s.words.length by omega) 3 (by decide) (v := .bool false) (by rw [← h3, hmm, Nat.add_sub_cancel]; rfl)
      rw [hmm] at c4 h2 hl hle
      rw [hA] at c4
      clear hnc hA hcw h3
      go_wp2_with (refine wp_storeS rfl 28 _ _ rfl (w.heap.size + 1) (stL nilA zeroP) rfl rfl 28 _ HR0.out 15 infoSt rfl rfl rfl ?_)
      intro w4 hg4 hw4
      have HG := Lib.hid hg4
      have HB4 := Lib.hid (below_grown HB0.out HB0.out.size hw4 (by omega))
      clear hg4 hw4
      go_wp2
      refine bodyPost_ret (results_S Tryz.results78 _ _ (w.heap.size + 1) 28 _ _ rfl HG.out Tryz.underlying28 rfl 15 infoSt rfl _ rfl) rfl ?_
      exact ⟨nilA, rfl, Res.zero _ _ _ _, HB4.out⟩
  | false =>
    obtain ⟨h1, h2, h3⟩ : ¬ 0 < s.ctl.length ∧ ¬ s.words.length = 0 ∧ (s.words[s.words.length - 1]!).hid = true := by
      unfold badE at hbad
      simp only [Bool.or_eq_false_iff, decide_eq_false_iff_not, Bool.not_eq_false'] at hbad
      exact ⟨hbad.1, hbad.2.1, hbad.2.2⟩
    have hr := HR.out
    rw [if_neg (by rw [hbad]; decide)] at hr
    obtain ⟨s2, hs2⟩ : ∃ a, emitS s [1] = a := ⟨_, rfl⟩
    obtain ⟨e2, he2⟩ : ∃ a, emitE s [1] = a := ⟨_, rfl⟩
    rw [hs2, he2] at hr
    have HS2 := Lib.hid hs2
    have HE2 := Lib.hid he2
    have HR2 := Lib.hid hr
    obtain ⟨m, hmm⟩ : ∃ m, s.words.length = m + 1 := ⟨s.words.length - 1, by omega⟩
    have HMM := Lib.hid hmm
    have hml : m < 1000000 := by omega
    obtain ⟨ad, hA, hcw⟩ := RdE.all encW_len (by decide) (HP.out.below HB0.out).words (by omega)
    have hc3 := hcw.at' (show m < s.words.length by omega) 3 (by decide) (v := .bool true) (by rw [← h3, hmm, Nat.add_sub_cancel]; rfl)
    rw [hnc] at h1 c3
    rw [hmm] at c4 h2 hl hle
    rw [hA] at c4
    clear hnc hA hcw h3 hr HR hbad hs2 he2 hmm
    go_wp2_with (refine wp_loadS rfl 28 _ rfl w.heap.size rfl 28 _ _ HA0.out Tryz.underlying28 rfl 15 infoSt rfl ?_)
    refine (REmit_any q s (some ⟨W.heap.size, 0, none⟩) 1 1 [1] s2 e2 _ rfl HS2.out HE2.out ((HP.out.below HB0.out).below (below_lit _ _)) (rd_one W 1) (by omega) (by omega)).mono ?_
    rintro r w1 ⟨q2, rfl, hres, hb⟩
    have hb' : Below W.heap.size W w1 := below_two (below_lit _ _) hb
    have HB1 := Lib.hid (below_two HB0.out hb')
    have HR1 := Lib.hid (HR0.out.below hb')
    have HRES : Hid (Res W.heap.size q s w1 q2 s2) := Lib.hid (hres.mono (by simp))
    have hw1 : W.heap.size ≤ w1.heap.size := hb'.size
    have HBL := Lib.hid (below_lit w1 (.cells (stL nilA zeroP).toArray 28))
    have HBX : Hid (Bx (w1.alloc (.cells (stL nilA zeroP).toArray 28)) w1.heap.size 28 (stL nilA zeroP)) := Lib.hid (Bx.new w1 _ _ _ _ rfl rfl)
    clear hres hb hb' c3 c4 hc3 h1 h2
    go_wp2_with (refine wp_storeS rfl 28 _ _ rfl w1.heap.size (stL q2 s2) rfl rfl 28 (stL nilA zeroP) HBX.out 15 infoSt rfl rfl (stL_one _ _) ?_)
    intro w2 hg2 hw2
    obtain ⟨g, hg⟩ : ∃ g, w1.heap.size = g := ⟨_, rfl⟩
    have HG2 : Hid (Bx w2 g 28 (stL q2 s2)) := Lib.hid (by rw [← hg]; exact hg2)
    have HB2 := Lib.hid (below_grown (below_two HB1.out HBL.out) (below_two HB1.out HBL.out).size hw2 (by omega))
    have HR2b := Lib.hid ((HR1.out.below HBL.out).grown hw2 (by omega))
    have hgw : W.heap.size ≤ g := by omega
    have HLG : Hid (Lies q2 s2 (fun b => b < g)) := Lib.hid (by rw [← hg]; exact HRES.out.rd.lies)
    have HP2 : Hid (RdP w2 q2 s2) := Lib.hid ((HRES.out.rd.below HBL.out).grown HLG.out hw2 (by omega))
    have HLZ : Hid (∀ S : Nat → Prop, Lies q s S → Lies q2 s2 (fun b => S b ∨ W.heap.size ≤ b)) := Lib.hid (fun S hS => HRES.out.lies S hS)
    rw [hg]
    clear hg2 hw2 hg HBX HBL HR1 HB1 HRES
    by_cases he0 : e2 = 0
    · subst he0
      have hr := HR2.out
      rw [if_pos rfl] at hr
      injection hr with hr1 hr2
      subst hr2
      have HS' := Lib.hid hr1
      have hw2w : s2.words = s.words := by rw [← HS2.out]; exact emit_words [1] s HE2.out
      have HWS := Lib.hid hw2w
      obtain ⟨ad, hA, hcw⟩ := RdE.all encW_len (by decide) HP2.out.words (by rw [hw2w]; have := HMM.out; omega)
      obtain ⟨now, hnw⟩ : ∃ b, (s2.words[m]!).now = b := ⟨_, rfl⟩
      have hc2 := hcw.at' (show m < s2.words.length by rw [hw2w, HMM.out]; omega) 2 (by decide) (v := .bool now) (by rw [← hnw]; rfl)
      have hadb : ad.block < g := by
        have h := HLG.out.words (by rw [hw2w, HMM.out]; omega) ad hA
        exact h
      have HAD := Lib.hid hA
      have HC2 : Hid (w2.cell? ((ad.add (m * 4)).add 2) = some (.bool now)) := Lib.hid (by rw [show (ad.add (m * 4)).add 2 = ⟨(ad.add (m * 4)).block, (ad.add (m * 4)).off + 2, none⟩ from rfl]; exact hc2)
      have HNW := Lib.hid hnw
      have c4 : (stL q2 s2)[4]? = some (.slice (some ad) (m + 1) q2.wc) := by
        show some (Value.slice q2.w s2.words.length q2.wc) = _
        rw [hw2w, HMM.out, hA]
      have HC4 := Lib.hid c4
      obtain ⟨s3, hs3⟩ : ∃ a : Ps, { s2 with words := turnL (setF now false) s2.words } = a := ⟨_, rfl⟩
      have HS3 := Lib.hid hs3
      have HLN : Hid (0 < s2.words.length ∧ s2.words.length ≤ 1000000) := Lib.hid (by rw [hw2w, HMM.out]; omega)
      have hg2l := HG2.out.lt
      clear hw2w hA hcw hnw hc2 c4 hs3 hr1 HR2
      go_upto_region 7 with fail
      obtain ⟨J, hJ⟩ : ∃ J : Bool × Bool × Bool → World → Prop, J = fun γ v => (γ.2.2 = true → γ.1 = true ∧ γ.2.1 = true) ∧ w2.grownBy v (some g) ∧ (γ.2.2 = false → Below w2.heap.size w2 v) ∧ (γ.2.2 = true → ∃ q', Bx v g 28 (stL q' s3) ∧ RdP v q' s3 ∧ ∀ S, Lies q2 s2 S → Lies q' s3 (fun b => S b ∨ w2.heap.size ≤ b)) := ⟨_, rfl⟩
      obtain ⟨E, hE⟩ : ∃ E : Bool × Bool × Bool → World → Bool × Bool × Bool → World → Prop, E = fun γ v γ' v' => (γ.1 = true → γ'.1 = true) ∧ (γ.2.1 = true → γ'.2.1 = true) ∧ (γ'.2.2 = false → γ.2.2 = false ∧ Below v.heap.size v v') ∧ v.grownBy v' (some g) ∧ J γ' v' := ⟨_, rfl⟩
      obtain ⟨U, hU⟩ : ∃ U : Nat → Bool × Bool × Bool → Prop, U = fun i γ => (i = 0 → γ.1 = false) ∧ (i = 2 → γ.2.1 = false) ∧ (i = 9 → γ.2.2 = false) := ⟨_, rfl⟩
      have quiet : ∀ (γ : Bool × Bool × Bool) (v : World) (i : Nat) (r : Value) (F : Bool × Bool × Bool → Value → World → Prop), J γ v → F γ r v → Did E U γ v i r v F :=
        fun γ v i r F hj h => ⟨γ, by rw [hE]; exact ⟨id, id, fun h => ⟨h, Below.refl _ _⟩, World.grownBy.refl _ _, hj⟩, fun _ _ h => h, h⟩
      refine wp_region_list (Γ := Bool × Bool × Bool) (J := J) (E := E) (U := U)
        [fun γ v _ => γ.1 = true ∧ v = stV q2 s2, fun _ v _ => v = .pointer (some ⟨g, 4, none⟩), fun γ v _ => γ.2.1 = true ∧ v = .slice (some ad) (m + 1) q2.wc, fun _ v _ => v = .int .i64 (m + 1 : Nat), fun _ v _ => v = .int .i64 m,
         fun γ v _ => γ.2.1 = true ∧ v = .pointer (some (ad.add (m * 4))), fun γ v _ => γ.2.1 = true ∧ v = .pointer (some ((ad.add (m * 4)).add 2)), fun γ v _ => γ.2.1 = true ∧ v = .bool now,
         fun γ v u => γ.1 = true ∧ γ.2.1 = true ∧ ∃ q', v = stV q' s3 ∧ (γ.2.2 = false → RdP u q' s3 ∧ (Lies q' s3 (fun b => b ≠ g)) ∧ ∀ S, Lies q2 s2 S → Lies q' s3 (fun b => S b ∨ w2.heap.size ≤ b)), fun γ _ _ => γ.2.2 = true]
        (fun | 2 => [1] | 4 => [3] | 5 => [2, 4] | 6 => [5] | 7 => [6] | 8 => [0, 7] | 9 => [8] | _ => [])
        _ rfl rfl (by kernel_rfl) (by kernel_rfl) (false, false, false) (fun i => by rw [hU]; exact ⟨fun _ => rfl, fun _ => rfl, fun _ => rfl⟩)
        (by rw [hJ]; exact ⟨fun h => (by cases h), grown_of_below (Below.refl _ _).drew, fun _ => (Below.refl _ _).drew, fun h => (by cases h)⟩) ?_ ?_ ?_ ?_
      · intro γ v γ' v' hj he
        rw [hE] at he
        exact he.2.2.2.2
      · intro i hi γ v u γ' u' hj h he
        rw [hE] at he
        obtain ⟨e1, e2, e3, e4, e5⟩ := he
        match i, hi, h with
        | 0, _, h => exact ⟨e1 h.1, h.2⟩
        | 1, _, h => exact h
        | 2, _, h => exact ⟨e2 h.1, h.2⟩
        | 3, _, h => exact h
        | 4, _, h => exact h
        | 5, _, h => exact ⟨e2 h.1, h.2⟩
        | 6, _, h => exact ⟨e2 h.1, h.2⟩
        | 7, _, h => exact ⟨e2 h.1, h.2⟩
        | 8, _, h =>
          obtain ⟨h1, h2, q', h3, h4⟩ := h
          exact ⟨e1 h1, e2 h2, q', h3, fun h => by obtain ⟨ha, hb⟩ := e3 h; exact ⟨(h4 ha).1.below hb, (h4 ha).2⟩⟩
        | 9, _, h =>
          show γ'.2.2 = true
          cases h2 : γ'.2.2 with
          | true => rfl
          | false =>
            have h3 := (e3 h2).1
            rw [show γ.2.2 = true from h] at h3
            cases h3
        | n + 10, hi, _ => exact absurd hi (by simp)
      · have nos : ∀ (γ : Bool × Bool × Bool) (v : World), J γ v → γ.1 = false ∨ γ.2.1 = false → γ.2.2 = false := by
          intro γ v hj h
          rw [hJ] at hj
          cases h2 : γ.2.2 with
          | false => rfl
          | true => obtain ⟨ha, hb⟩ := hj.1 h2; rw [ha, hb] at h; rcases h with h | h <;> cases h
        have bel : ∀ (γ : Bool × Bool × Bool) (v : World), J γ v → γ.2.2 = false → Below w2.heap.size w2 v := by
          intro γ v hj h
          rw [hJ] at hj
          exact hj.2.2.1 h
        refine ⟨?_, ?_, ?_, ?_, ?_, ?_, ?_, ?_, ?_, ?_, trivial⟩
        · intro a γ v hj hu hd hf
          rw [hU] at hu
          have hb := bel γ v hj (nos γ v hj (.inl (hu.1 rfl)))
          refine rg_load 28 _ rfl g (hf 5 (by decide)) 28 _ _ (HG2.out.below hb) Tryz.underlying28 rfl 15 infoSt rfl ⟨_, rfl, (true, γ.2), ?_, fun j hj2 h => ?_, rfl, rfl⟩
          · rw [hE]
            refine ⟨fun _ => rfl, id, fun h => ⟨h, Below.refl _ _⟩, World.grownBy.refl _ _, ?_⟩
            rw [hJ] at hj ⊢
            exact ⟨fun h => ⟨rfl, (hj.1 h).2⟩, hj.2⟩
          · rw [hU] at h ⊢
            exact ⟨fun e => absurd e hj2, h.2⟩
        · intro a γ v hj hu hd hf
          exact rg_field _ _ _ rfl _ _ (hf 5 (by decide)) (fd4_run g v) ⟨_, rfl, quiet _ _ _ _ _ hj rfl⟩
        · intro a γ v hj hu hd hf
          obtain ⟨y, e, rfl⟩ := hd 1 (by simp)
          rw [hU] at hu
          have hb := bel γ v hj (nos γ v hj (.inr (hu.2.1 rfl)))
          have hk : v.cell? ⟨g, 4, none⟩ = some (.slice (some ad) (m + 1) q2.wc) := ((HG2.out.below hb).cell 4).trans HC4.out
          refine rg_loadv _ _ rfl _ _ (e 40 rfl) (ld_words _ _ _ _ _ hk) ⟨_, rfl, (γ.1, true, γ.2.2), ?_, fun j hj2 h => ?_, rfl, rfl⟩
          · rw [hE]
            refine ⟨id, fun _ => rfl, fun h => ⟨h, Below.refl _ _⟩, World.grownBy.refl _ _, ?_⟩
            rw [hJ] at hj ⊢
            exact ⟨fun h => ⟨(hj.1 h).1, rfl⟩, hj.2⟩
          · rw [hU] at h ⊢
            exact ⟨h.1, fun e => absurd e hj2, h.2.2⟩
        · intro a γ v hj hu hd hf
          exact rg_move _ rfl _ (hf 4 (by decide)) ⟨_, rfl, quiet _ _ _ _ _ hj rfl⟩
        · intro a γ v hj hu hd hf
          obtain ⟨_, e, rfl⟩ := hd 3 (by simp)
          refine rg_run (.int .i64 m) ?_ ⟨_, rfl, quiet _ _ _ _ _ hj rfl⟩
          unfold execOp
          simp only [e 42 rfl, show a.eval (.const (.int .i64 1)) = .int .i64 1 from rfl, eqGuard_sub, Sem.run_bind, Sem.run_pure, Result.andThen_ok, sub1_run (m + 1) m rfl hml v]
        · intro a γ v hj hu hd hf
          obtain ⟨_, e2, h2, rfl⟩ := hd 2 (by simp)
          obtain ⟨_, e4, rfl⟩ := hd 4 (by simp)
          refine rg_run (.pointer (some (ad.add (m * 4)))) ?_ ⟨_, rfl, quiet _ _ _ _ _ hj ⟨h2, rfl⟩⟩
          unfold execOp
          simp only [e2 41 rfl, e4 43 rfl, Sem.run_bind, ixA_run ad (m + 1) q2.wc m v (by omega), Sem.run_pure, Result.andThen_ok]
        · intro a γ v hj hu hd hf
          obtain ⟨_, e, h2, rfl⟩ := hd 5 (by simp)
          exact rg_field _ _ _ rfl _ _ (e 44 rfl) (fdA_run _ 2 (by decide) v) ⟨_, rfl, quiet _ _ _ _ _ hj ⟨h2, rfl⟩⟩
        · intro a γ v hj hu hd hf
          obtain ⟨_, e, h2, rfl⟩ := hd 6 (by simp)
          have hj' := hj
          rw [hJ] at hj'
          have hk := hj'.2.1.cell HC2.out (fun e => by
            injection e with e
            have h5 : ((ad.add (m * 4)).add 2).block = ad.block := by rw [add_blk, add_blk]
            rw [h5] at e
            omega)
          exact rg_loadv _ _ rfl _ _ (e 45 rfl) (ld_bool _ _ _ hk) ⟨_, rfl, quiet _ _ _ _ _ hj ⟨h2, rfl⟩⟩
        · intro a γ v hj hu hd hf
          obtain ⟨_, e0, h0, rfl⟩ := hd 0 (by simp)
          obtain ⟨_, e7, h7, rfl⟩ := hd 7 (by simp)
          have hj' := hj
          rw [hJ] at hj'
          have hrd : RdP v q2 s2 := HP2.out.grown HLG.out hj'.2.1 (by omega)
          refine rg_call 79 _ _ rfl #[stV q2 s2, .bool now, .bool false] (by simp [e0 39 rfl, e7 46 rfl, show a.eval (.const (.bool false)) = .bool false from rfl]) (by go_simp) _ (RLast_go q2 s2 now false s3 v HS3.out hrd HLN.out.1 HLN.out.2) ?_
          rintro r u ⟨q', rfl, hres, hb⟩
          have hsz2 : w2.heap.size ≤ v.heap.size := hj'.2.1.size
          refine ⟨_, rfl, _, rfl, γ, ?_, fun _ _ h => h, h0, h7, q', rfl, fun hc => ⟨hres.rd, (hres.lies _ HLG.out).mono (fun b hb => by omega), fun S hS => (hres.lies S hS).mono (fun b hb => hb.imp id (fun h => by omega))⟩⟩
          rw [hE]
          refine ⟨id, id, fun h => ⟨h, hb⟩, grown_of_below hb, ?_⟩
          rw [hJ]
          refine ⟨hj'.1, hj'.2.1.trans (grown_of_below hb), fun h => below_two (hj'.2.2.1 h) hb, fun h => ?_⟩
          obtain ⟨q3, h3, h4, h5⟩ := hj'.2.2.2 h
          exact ⟨q3, h3.below hb, h4.below hb, h5⟩
        · intro a γ v hj hu hd hf
          obtain ⟨_, e8, h0, h7, q', rfl, h8⟩ := hd 8 (by simp)
          rw [hU] at hu
          have hs := hu.2.2 rfl
          obtain ⟨hr1, hr2, hr3⟩ := h8 hs
          have hb := bel γ v hj hs
          have hj' := hj
          rw [hJ] at hj'
          refine rg_store 28 _ _ rfl g (stL q' s3) (hf 5 (by decide)) (e8 47 rfl) 28 (stL q2 s2) (HG2.out.below hb) 15 infoSt rfl rfl (stL_one _ _) ?_
          intro u hbx hgr
          refine ⟨_, rfl, (γ.1, γ.2.1, true), ?_, fun j hj2 h => ?_, rfl⟩
          · rw [hE]
            refine ⟨id, id, fun h => (by cases h), hgr, ?_⟩
            rw [hJ]
            exact ⟨fun _ => ⟨h0, h7⟩, hj'.2.1.trans hgr, fun h => (by cases h), fun _ => ⟨q', hbx, hr1.grown hr2 hgr (fun h => h rfl), hr3⟩⟩
          · rw [hU] at h ⊢
            exact ⟨h.1, h.2.1, fun e => absurd e hj2⟩
      · intro V γ v hj h
        have h9 : γ.2.2 = true := h 9 (by decide)
        rw [hJ] at hj
        obtain ⟨q3, hbx, hrd, hli⟩ := hj.2.2.2 h9
        have HG3 := Lib.hid hbx
        have HP3 := Lib.hid hrd
        have HL3 := Lib.hid hli
        have HB3 := Lib.hid (below_grown HB2.out HB2.out.size hj.2.1 (by omega))
        have HR3 := Lib.hid (HR2b.out.grown hj.2.1 (by omega))
        have hs23 := hj.2.1.size
        clear hj h quiet hJ hE hU hbx hrd hli
        simp only [List.map_cons, List.map_nil, putD, Act.put, List.setIfInBounds_toArray, List.set_cons_succ, List.set_cons_zero, Nat.reduceAdd, Nat.zero_add]
        go_wp2_with (refine wp_storeF rfl 4 _ _ rfl g 13 _ rfl rfl rfl 28 _ HG3.out 15 rfl (by decide) info1b ?_)
        intro w4 hg4 hw4
        have hLL : ∀ S : Nat → Prop, Lies q s S → Lies q3 s' (fun b => S b ∨ W.heap.size ≤ b) := fun S hS => by
          have h := (HL3.out _ (HLZ.out S hS)).mono (T := fun b => S b ∨ W.heap.size ≤ b) (fun b hb => hb.elim id (fun h => .inr (by omega)))
          have e : s' = { s3 with comp := false } := by
            rw [← HS'.out, ← HS3.out]
            have h2 : turnL hidF s2.words = turnL (setF now false) s2.words := by
              obtain ⟨l0, y, hsw⟩ := snoc_of HLN.out.1
              have hy : (s2.words[m]!).now = y.now := by
                have hlen : l0.length = m := by have h := congrArg List.length hsw; rw [HWS.out, HMM.out, List.length_append] at h; simp at h; omega
                rw [hsw, ← hlen]
                simp
              rw [hsw, turnL_snoc, turnL_snoc]
              congr 2
              unfold hidF setF
              rw [← HNW.out, hy]
            rw [h2]
          rw [e]
          exact h.withComp false
        have e : s' = { s3 with comp := false } := by
          rw [← HS'.out, ← HS3.out]
          have h2 : turnL hidF s2.words = turnL (setF now false) s2.words := by
            obtain ⟨l0, y, hsw⟩ := snoc_of HLN.out.1
            have hy : (s2.words[m]!).now = y.now := by
              have hlen : l0.length = m := by have h := congrArg List.length hsw; rw [HWS.out, HMM.out, List.length_append] at h; simp at h; omega
              rw [hsw, ← hlen]
              simp
            rw [hsw, turnL_snoc, turnL_snoc]
            congr 2
            unfold hidF setF
            rw [← HNW.out, hy]
          rw [h2]
        have HG4 : Hid (Bx w4 g 28 (stL q3 s')) := Lib.hid (by rw [e]; exact hg4)
        have HP4a : RdP v q3 s' := by rw [e]; exact HP3.out.withComp false
        have HLL := Lib.hid hLL
        have HP4 : Hid (RdP w4 q3 s') := Lib.hid (HP4a.grown (S := fun b => b ≠ g) (by
          have h := HL3.out _ HLG.out
          rw [e]
          exact (h.withComp false).mono (fun b hb => by omega)) hw4 (fun h => h rfl))
        have HLN4 : Hid (Lies q3 s' (fun b => b ≠ w.heap.size + 1)) := Lib.hid ((hLL _ HP.out.lies).mono (fun b hb => by omega))
        have HR4 := Lib.hid (HR3.out.grown hw4 (by omega))
        have HB4 := Lib.hid (below_grown HB3.out HB3.out.size hw4 (by omega))
        clear hg4 hw4 hLL e HP4a
        go_wp2_with (first
          | (refine wp_loadS rfl 28 _ rfl g rfl 28 _ _ HG4.out Tryz.underlying28 rfl 15 infoSt rfl ?_)
          | (refine wp_storeS rfl 28 _ _ rfl (w.heap.size + 1) (stL q3 s') rfl rfl 28 _ HR4.out 15 infoSt rfl rfl (stL_one _ _) ?_))
        intro w5 hg5 hw5
        have HG := Lib.hid hg5
        have HB5 := Lib.hid (below_grown HB4.out HB4.out.size hw5 (by omega))
        have HP5 := Lib.hid (HP4.out.grown HLN4.out hw5 (fun h => h rfl))
        clear hg5 hw5
        go_wp2
        refine bodyPost_ret (results_S Tryz.results78 _ _ (w.heap.size + 1) 28 _ _ rfl HG.out Tryz.underlying28 rfl 15 infoSt rfl _ rfl) rfl ?_
        exact ⟨_, rfl, ⟨HP5.out, fun S hS => (HLL.out S hS).mono (fun b hb => hb.imp id (fun h => by omega))⟩, HB5.out⟩
    · have hr := HR2.out
      rw [if_neg he0] at hr
      injection hr with ha hb
      subst ha hb
      go_wp2_with (refine wp_storeS rfl 28 _ _ rfl (w.heap.size + 1) (stL nilA zeroP) rfl rfl 28 _ HR2b.out 15 infoSt rfl rfl rfl ?_)
      intro w4 hg4 hw4
      have HG := Lib.hid hg4
      have HB4 := Lib.hid (below_grown HB2.out HB2.out.size hw4 (by omega))
      clear hg4 hw4
      go_wp2
      refine bodyPost_ret (results_S Tryz.results78 _ _ (w.heap.size + 1) 28 _ _ rfl HG.out Tryz.underlying28 rfl 15 infoSt rfl _ rfl) rfl ?_
      exact ⟨nilA, rfl, Res.zero _ _ _ _, HB4.out⟩
end Go.Proofs.YtappfhjknihboaaGreatDoor
