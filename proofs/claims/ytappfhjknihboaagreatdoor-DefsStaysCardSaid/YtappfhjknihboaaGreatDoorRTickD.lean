
/- The reference's ticks and chars. -/
import Derived.Test.YtappfhjknihboaaGreatDoorMP
import Derived.Test.YtappfhjknihboaaGreatDoorRQuoteD
namespace Go.Proofs.YtappfhjknihboaaGreatDoor
open Go.RowKit

theorem fin_emitD {s : Ps} {l : List Int} : fin (emitD (s, 0) l) = (emitS s l, emitE s l) := by
  unfold emitD
  rw [if_pos rfl]
  simp only
  by_cases h : emitE s l = 0
  · rw [if_pos h, h]
    rfl
  · rw [if_neg h]
    unfold fin
    rw [if_neg h, emit_zero _ _ h]
theorem fin_no {s : Ps} {e : Int} (h : e ≠ 0) : fin (s, e) = (zeroP, e) := by
  unfold fin
  rw [if_neg h]
theorem giveD_no {x : Sx} {s : Ps} {e v : Int} (h : e ≠ 0) : giveD x (s, e) v = (s, e) := by
  unfold giveD
  rw [if_neg h]
theorem infoWh : (Tryz.prog.info? 40).map (·.size) = some 3 := by kernel_rfl
set_option maxRecDepth 100000 in
set_option maxHeartbeats 4000000 in
theorem RTicks_go (k : Int) (q : Ad) (s : Ps) (x : Sx) (s' : Ps) (e' : Int) (w : World) (hr : fin (if k = 118 then tickD x (s, 0) else if k = 119 then btickD x (s, 0) else postD x (s, 0)) = (s', e')) (hp : RdP w q s) (hsz : x.src.size ≤ 200) (hz : SzD s) :
    Calls Tryz.prog 83 #[stV q s, suV x, .int .i64 k] w fun e w' => ∃ q', e = .returned (.tuple #[stV q' s', .int .i64 e']) ∧ Res w.heap.size q s w' q' s' ∧ Below w.heap.size w w' := by
  have HTS := Lib.hid (tok_size x s hsz)
  obtain ⟨s1, hs1⟩ : ∃ s1 : Ps, { s with pos := (tokB x.src s.pos : Int) } = s1 := ⟨_, rfl⟩
  obtain ⟨tok, htok⟩ : ∃ t, tokS x s = t := ⟨_, rfl⟩
  obtain ⟨m, hmm⟩ : ∃ m, mayN tok.size = m := ⟨_, rfl⟩
  obtain ⟨c, hc⟩ : ∃ v, foundC s tok = v := ⟨_, rfl⟩
  obtain ⟨nw, hnw⟩ : ∃ v, foundN s tok = v := ⟨_, rfl⟩
  obtain ⟨is, his⟩ : ∃ v, foundI s tok = v := ⟨_, rfl⟩
  have hfd : foundD x (s, 0) = (s1, thr m (if is then 0 else -13)) := by rw [← hmm, ← his, ← htok, ← hs1]; rfl
  unfold tickD btickD postD at hr
  simp only at hr
  rw [hfd, htok, hc, hnw] at hr
  have hF : s1.mem = s.mem ∧ s1.spots = s.spots ∧ s1.data = s.data ∧ s1.words = s.words ∧ foundC s1 tok = c ∧ foundN s1 tok = nw ∧ foundI s1 tok = is := by rw [← hs1, ← hc, ← hnw, ← his]; exact ⟨rfl, rfl, rfl, rfl, rfl, rfl, rfl⟩
  have HF := Lib.hid hF
  rw [htok] at HTS
  have HTK := Lib.hid htok
  have HMM := Lib.hid hmm
  have HS1 := Lib.hid hs1
  have HR := Lib.hid hr
  have HZ := Lib.hid hz
  have HP1 : Hid (RdP w q s1) := Lib.hid (by rw [← hs1]; exact hp.withPos _)
  have HLI : Hid (∀ S, Lies q s S → Lies q s1 S) := Lib.hid (fun S h => by rw [← hs1]; exact h.withPos _)
  clear hr htok hmm hs1 hF hfd hc hnw his hz
  have hB0 := below_two (below_two (below_lit w (.cells (stL q s).toArray 28)) (below_lit _ (.cells (suL x).toArray 30))) (below_lit _ (.cells (stL nilA zeroP).toArray 28))
  have hS : Bx (((w.alloc (.cells (stL q s).toArray 28)).alloc (.cells (suL x).toArray 30)).alloc (.cells (stL nilA zeroP).toArray 28)) w.heap.size 28 (stL q s) := ((Bx.new w _ _ _ _ rfl rfl).alloc _).alloc _
  have hX : Bx (((w.alloc (.cells (stL q s).toArray 28)).alloc (.cells (suL x).toArray 30)).alloc (.cells (stL nilA zeroP).toArray 28)) (w.heap.size + 1) 30 (suL x) := (Bx.new _ _ _ _ _ (by simp) rfl).alloc _
  have hR : Bx (((w.alloc (.cells (stL q s).toArray 28)).alloc (.cells (suL x).toArray 30)).alloc (.cells (stL nilA zeroP).toArray 28)) (w.heap.size + 2) 28 (stL nilA zeroP) := Bx.new _ _ _ _ _ (by simp) rfl
  obtain ⟨W, hW⟩ : ∃ W, (((w.alloc (.cells #[.slice q.m s.mem.length q.mc, .slice q.d s.data.length q.dc, .slice q.r s.ret.length q.rc, .slice q.c s.ctl.length q.cc, .slice q.w s.words.length q.wc, .slice q.s s.spots.length q.sc, .slice q.o s.out.length q.oc, .int .i64 s.ip, .int .i64 s.here, .int .i64 s.pos, .int .i64 s.tok, .int .i64 s.inp, .int .i64 s.err, .bool s.comp, .bool s.halt] 28)).alloc (.cells #[.string x.src, .slice x.iA x.iN x.iC, .int .i64 x.size, .int .i64 x.depth, .int .i64 x.room] 30)).alloc (.cells #[.slice none 0 0, .slice none 0 0, .slice none 0 0, .slice none 0 0, .slice none 0 0, .slice none 0 0, .slice none 0 0, .int .i64 0, .int .i64 0, .int .i64 0, .int .i64 0, .int .i64 0, .int .i64 0, .bool false, .bool false] 28)) = W := ⟨_, rfl⟩
  have HB0 : Hid (Below w.heap.size w W) := Lib.hid (by rw [← hW]; exact hB0)
  have HA0 : Hid (Bx W w.heap.size 28 (stL q s)) := Lib.hid (by rw [← hW]; exact hS)
  have HX0 : Hid (Bx W (w.heap.size + 1) 30 (suL x)) := Lib.hid (by rw [← hW]; exact hX)
  have HR0 : Hid (Bx W (w.heap.size + 2) 28 (stL nilA zeroP)) := Lib.hid (by rw [← hW]; exact hR)
  have HP : Hid (RdP w q s) := Lib.hid hp
  have HWW := Lib.hid hW
  clear hp hB0 hS hX hR hW
  rw [stV_eq q s, suV_eq x]
  go_enter Tryz.func83, Tryz.ntmps83
  go_upto_region 1 with fail
  rw [HWW.out]
  have hW2 : w.heap.size + 2 < W.heap.size := HR0.out.lt
  go_wp2_with (first
    | (refine wp_loadS rfl 28 _ rfl w.heap.size rfl 28 _ _ HA0.out Tryz.underlying28 rfl 15 infoSt rfl ?_)
    | (refine wp_loadS rfl 30 _ rfl (w.heap.size + 1) rfl 30 _ _ HX0.out Tryz.underlying30 rfl 5 infoSx rfl ?_))
  refine (RName_go q s x tok m W HTK.out HMM.out (HP.out.below HB0.out) hsz).mono ?_
  rw [HS1.out]
  rintro r w1 ⟨rfl, hb⟩
  have HB1 := Lib.hid (below_two HB0.out hb)
  have HR1 := Lib.hid (HR0.out.below hb)
  have HX1 := Lib.hid (HX0.out.below hb)
  have hw1 : W.heap.size ≤ w1.heap.size := hb.size
  have HBL := Lib.hid (below_lit w1 (.cells (stL nilA zeroP).toArray 28))
  have HBX : Hid (Bx (w1.alloc (.cells (stL nilA zeroP).toArray 28)) w1.heap.size 28 (stL nilA zeroP)) := Lib.hid (Bx.new w1 _ _ _ _ rfl rfl)
  clear hb
  go_wp2_with (refine wp_storeS rfl 28 _ _ rfl w1.heap.size (stL q s1) rfl rfl 28 (stL nilA zeroP) HBX.out 15 infoSt rfl rfl (stL_one _ _) ?_)
  intro w2 hg2 hw2
  obtain ⟨g, hg⟩ : ∃ g, w1.heap.size = g := ⟨_, rfl⟩
  have HG2 : Hid (Bx w2 g 28 (stL q s1)) := Lib.hid (by rw [← hg]; exact hg2)
  have HB2 := Lib.hid (below_grown (below_two HB1.out HBL.out) (below_two HB1.out HBL.out).size hw2 (by omega))
  have HR2 := Lib.hid ((HR1.out.below HBL.out).grown hw2 (by omega))
  have HX2 := Lib.hid ((HX1.out.below HBL.out).grown hw2 (by omega))
  have hgw : w.heap.size + 2 < g := by omega
  rw [hg]
  have hg2l := HG2.out.lt
  clear hg2 hw2 hg hw1 HBX HBL HR1 HB1 HX1
  by_cases hm0 : m = 0
  · subst hm0
    have hr := HR.out
    have ht0 : thr 0 (if is then 0 else -13) = (if is then 0 else -13) := rfl
    rw [ht0] at hr
    have HR' := Lib.hid hr
    clear hr HR ht0
    go_wp2_with (refine wp_loadS rfl 28 _ rfl g rfl 28 _ _ HG2.out Tryz.underlying28 rfl 15 infoSt rfl ?_)
    refine (RFound_any q s1 tok c nw is w2 HF.out.2.2.2.2.1 HF.out.2.2.2.2.2.1 HF.out.2.2.2.2.2.2 (HP1.out.below HB2.out) (by rw [HF.out.2.2.2.1]; have := HZ.out.words; omega) (by rw [HF.out.2.2.2.1]; exact HZ.out.nms) (by have := HTS.out; omega)).mono ?_
    rintro r w3 ⟨rfl, hb⟩
    have HB3 := Lib.hid (below_two HB2.out hb)
    have HR3 := Lib.hid (HR2.out.below hb)
    have HX3 := Lib.hid (HX2.out.below hb)
    have HG3 := Lib.hid (HG2.out.below hb)
    have HBL := Lib.hid (below_lit w3 (.cells #[.int .i64 0, .bool false, .bool false] 40))
    have HBX : Hid (Bx (w3.alloc (.cells #[.int .i64 0, .bool false, .bool false] 40)) w3.heap.size 40 [.int .i64 0, .bool false, .bool false]) := Lib.hid (Bx.new w3 _ _ _ _ rfl rfl)
    have hw3 : g < w3.heap.size := HG3.out.lt
    clear hb
    go_wp2_with (refine wp_storeS rfl 40 _ _ rfl w3.heap.size [.int .i64 c, .bool nw, .bool is] rfl rfl 40 _ HBX.out 3 infoWh rfl rfl rfl ?_)
    intro w4 hg4 hw4
    obtain ⟨h, hh⟩ : ∃ h, w3.heap.size = h := ⟨_, rfl⟩
    have HW4 : Hid (Bx w4 h 40 [.int .i64 c, .bool nw, .bool is]) := Lib.hid (by rw [← hh]; exact hg4)
    have HB4 := Lib.hid (below_grown (below_two HB3.out HBL.out) (below_two HB3.out HBL.out).size hw4 (by omega))
    have HR4 := Lib.hid ((HR3.out.below HBL.out).grown hw4 (by omega))
    have HX4 := Lib.hid ((HX3.out.below HBL.out).grown hw4 (by omega))
    have HG4 := Lib.hid ((HG3.out.below HBL.out).grown hw4 (by omega))
    rw [hh]
    have hw4 : w.heap.size ≤ w4.heap.size := HB4.out.size
    have hw4b : w.heap.size + 2 < w4.heap.size := by have := HG4.out.lt; omega
    clear hg4 hw3 hh HBX HBL HR3 HB3 HX3 HG3
    have i0 : w4.cell? ⟨h, 0, none⟩ = some (.int .i64 c) := HW4.out.cell 0
    have i1 : w4.cell? ⟨h, 1, none⟩ = some (.bool nw) := HW4.out.cell 1
    have i2 : w4.cell? ⟨h, 2, none⟩ = some (.bool is) := HW4.out.cell 2
    cases is with
    | false =>
      have hr := HR'.out
      have e1 : (if false = true then (0 : Int) else -13) = -13 := rfl
      rw [e1] at hr
      have hfn : (if k = 118 then giveD x (s1, -13) c else if k = 119 then emitD (s1, -13) [2, c] else if nw = true then emitD (s1, -13) [c] else emitD (s1, -13) [2, c, 12]) = (s1, -13) := by
        rw [giveD_no (by decide), emitD_no (by decide), emitD_no (by decide), emitD_no (by decide)]
        split
        · rfl
        · split
          · rfl
          · split <;> rfl
      rw [hfn, fin_no (by decide)] at hr
      injection hr with ha hb
      subst ha hb
      clear hfn e1
      go_wp2_with (refine wp_storeS rfl 28 _ _ rfl (w.heap.size + 2) (stL nilA zeroP) rfl rfl 28 _ HR4.out 15 infoSt rfl rfl rfl ?_)
      intro w4 hg4 hw4
      have HG := Lib.hid hg4
      have HB4 := Lib.hid (below_grown HB4.out HB4.out.size hw4 (by omega))
      clear hg4 hw4
      go_wp2
      refine bodyPost_ret (results_S Tryz.results83 _ _ (w.heap.size + 2) 28 _ _ rfl HG.out Tryz.underlying28 rfl 15 infoSt rfl _ rfl) rfl ?_
      exact ⟨nilA, rfl, Res.zero _ _ _ _, HB4.out⟩
    | true =>
      have hr := HR'.out
      have e1 : (if true = true then (0 : Int) else -13) = 0 := rfl
      rw [e1] at hr
      clear e1
      by_cases h118 : k = 118
      · rw [if_pos h118] at hr
        have HRR := Lib.hid hr
        clear hr
        go_wp2_with (first
          | (refine wp_loadS rfl 28 _ rfl g rfl 28 _ _ HG4.out Tryz.underlying28 rfl 15 infoSt rfl ?_)
          | (refine wp_loadS rfl 30 _ rfl (w.heap.size + 1) rfl 30 _ _ HX4.out Tryz.underlying30 rfl 5 infoSx rfl ?_))
        refine (RGive_go q s1 x c s' e' w4 HRR.out (HP1.out.below HB4.out) (by rw [HF.out.2.2.1]; have := HZ.out.data; omega)).mono ?_
        rintro r w6 ⟨q6, rfl, hres, hb⟩
        have HRES := Lib.hid hres
        have HB6 := Lib.hid (below_two HB4.out hb)
        have HRX := Lib.hid (HR4.out.below hb)
        clear hres hb i0 i1 i2
        go_wp2_with (refine wp_storeS rfl 28 _ _ rfl (w.heap.size + 2) (stL q6 s') rfl rfl 28 _ HRX.out 15 infoSt rfl rfl (stL_one _ _) ?_)
        intro w7 hg7 hw7
        have HG := Lib.hid hg7
        have HB7 := Lib.hid (below_grown HB6.out HB6.out.size hw7 (by omega))
        have hl6 := HRES.out.lies _ (HLI.out _ HP.out.lies)
        have HP7 := Lib.hid (HRES.out.rd.grown hl6 hw7 (by omega))
        have HLZ : Hid (∀ S : Nat → Prop, Lies q s S → Lies q6 s' (fun b => S b ∨ w.heap.size ≤ b)) := Lib.hid (fun S hS => (HRES.out.lies _ (HLI.out S hS)).mono (fun b hb => by first | exact hb.imp id (fun h => by omega) | exact hb.elim (fun h => h.imp id (fun h => by omega)) (fun h => .inr (by omega))))
        clear hg7 hw7 hl6
        go_wp2
        refine bodyPost_ret (results_S Tryz.results83 _ _ (w.heap.size + 2) 28 _ _ rfl HG.out Tryz.underlying28 rfl 15 infoSt rfl _ rfl) rfl ?_
        exact ⟨q6, rfl, ⟨HP7.out, HLZ.out⟩, HB7.out⟩
      · rw [if_neg h118] at hr
        by_cases h119 : k = 119
        · rw [if_pos h119, fin_emitD] at hr
          injection hr with ha hb
          have HE1 := Lib.hid ha
          have HE2 := Lib.hid hb
          clear ha hb
          go_wp2_with (refine wp_loadS rfl 28 _ rfl g rfl 28 _ _ HG4.out Tryz.underlying28 rfl 15 infoSt rfl ?_)
          refine (REmit_any q s1 (some ⟨w4.heap.size, 0, none⟩) 2 2 [2, c] s' e' _ rfl HE1.out HE2.out ((HP1.out.below HB4.out).below (below_lit _ _)) (rd_two w4 2 c) (by rw [HF.out.1]; have := HZ.out.mem; omega) (by rw [HF.out.2.1]; have := HZ.out.spots; omega)).mono ?_
          rintro r w6 ⟨q6, rfl, hres, hb⟩
          have hb' := below_two (below_lit _ _) hb
          have HRES : Hid (Res w4.heap.size q s1 w6 q6 s') := Lib.hid (hres.mono (by simp))
          have HB6 := Lib.hid (below_two HB4.out hb')
          have HRX := Lib.hid (HR4.out.below hb')
          clear hres hb hb' i0 i1 i2
          go_wp2_with (refine wp_storeS rfl 28 _ _ rfl (w.heap.size + 2) (stL q6 s') rfl rfl 28 _ HRX.out 15 infoSt rfl rfl (stL_one _ _) ?_)
          intro w7 hg7 hw7
          have HG := Lib.hid hg7
          have HB7 := Lib.hid (below_grown HB6.out HB6.out.size hw7 (by omega))
          have hl6 := HRES.out.lies _ (HLI.out _ HP.out.lies)
          have HP7 := Lib.hid (HRES.out.rd.grown hl6 hw7 (by omega))
          have HLZ : Hid (∀ S : Nat → Prop, Lies q s S → Lies q6 s' (fun b => S b ∨ w.heap.size ≤ b)) := Lib.hid (fun S hS => (HRES.out.lies _ (HLI.out S hS)).mono (fun b hb => by first | exact hb.imp id (fun h => by omega) | exact hb.elim (fun h => h.imp id (fun h => by omega)) (fun h => .inr (by omega))))
          clear hg7 hw7 hl6
          go_wp2
          refine bodyPost_ret (results_S Tryz.results83 _ _ (w.heap.size + 2) 28 _ _ rfl HG.out Tryz.underlying28 rfl 15 infoSt rfl _ rfl) rfl ?_
          exact ⟨q6, rfl, ⟨HP7.out, HLZ.out⟩, HB7.out⟩
        · rw [if_neg h119] at hr
          cases nw with
          | true =>
            rw [if_pos rfl, fin_emitD] at hr
            injection hr with ha hb
            have HE1 := Lib.hid ha
            have HE2 := Lib.hid hb
            clear ha hb
            go_wp2_with (refine wp_loadS rfl 28 _ rfl g rfl 28 _ _ HG4.out Tryz.underlying28 rfl 15 infoSt rfl ?_)
            refine (REmit_any q s1 (some ⟨w4.heap.size, 0, none⟩) 1 1 [c] s' e' _ rfl HE1.out HE2.out ((HP1.out.below HB4.out).below (below_lit _ _)) (rd_one w4 c) (by rw [HF.out.1]; have := HZ.out.mem; omega) (by rw [HF.out.2.1]; have := HZ.out.spots; omega)).mono ?_
            rintro r w6 ⟨q6, rfl, hres, hb⟩
            have hb' := below_two (below_lit _ _) hb
            have HRES : Hid (Res w4.heap.size q s1 w6 q6 s') := Lib.hid (hres.mono (by simp))
            have HB6 := Lib.hid (below_two HB4.out hb')
            have HRX := Lib.hid (HR4.out.below hb')
            clear hres hb hb' i0 i1 i2
            go_wp2_with (refine wp_storeS rfl 28 _ _ rfl (w.heap.size + 2) (stL q6 s') rfl rfl 28 _ HRX.out 15 infoSt rfl rfl (stL_one _ _) ?_)
            intro w7 hg7 hw7
            have HG := Lib.hid hg7
            have HB7 := Lib.hid (below_grown HB6.out HB6.out.size hw7 (by omega))
            have hl6 := HRES.out.lies _ (HLI.out _ HP.out.lies)
            have HP7 := Lib.hid (HRES.out.rd.grown hl6 hw7 (by omega))
            have HLZ : Hid (∀ S : Nat → Prop, Lies q s S → Lies q6 s' (fun b => S b ∨ w.heap.size ≤ b)) := Lib.hid (fun S hS => (HRES.out.lies _ (HLI.out S hS)).mono (fun b hb => by first | exact hb.imp id (fun h => by omega) | exact hb.elim (fun h => h.imp id (fun h => by omega)) (fun h => .inr (by omega))))
            clear hg7 hw7 hl6
            go_wp2
            refine bodyPost_ret (results_S Tryz.results83 _ _ (w.heap.size + 2) 28 _ _ rfl HG.out Tryz.underlying28 rfl 15 infoSt rfl _ rfl) rfl ?_
            exact ⟨q6, rfl, ⟨HP7.out, HLZ.out⟩, HB7.out⟩
          | false =>
            rw [if_neg (by decide), fin_emitD] at hr
            injection hr with ha hb
            have HE1 := Lib.hid ha
            have HE2 := Lib.hid hb
            clear ha hb
            go_wp2_with (refine wp_loadS rfl 28 _ rfl g rfl 28 _ _ HG4.out Tryz.underlying28 rfl 15 infoSt rfl ?_)
            refine (REmit_any q s1 (some ⟨w4.heap.size, 0, none⟩) 3 3 [2, c, 12] s' e' _ rfl HE1.out HE2.out ((HP1.out.below HB4.out).below (below_lit _ _)) (rd_three w4 2 c 12) (by rw [HF.out.1]; have := HZ.out.mem; omega) (by rw [HF.out.2.1]; have := HZ.out.spots; omega)).mono ?_
            rintro r w6 ⟨q6, rfl, hres, hb⟩
            have hb' := below_two (below_lit _ _) hb
            have HRES : Hid (Res w4.heap.size q s1 w6 q6 s') := Lib.hid (hres.mono (by simp))
            have HB6 := Lib.hid (below_two HB4.out hb')
            have HRX := Lib.hid (HR4.out.below hb')
            clear hres hb hb' i0 i1 i2
            go_wp2_with (refine wp_storeS rfl 28 _ _ rfl (w.heap.size + 2) (stL q6 s') rfl rfl 28 _ HRX.out 15 infoSt rfl rfl (stL_one _ _) ?_)
            intro w7 hg7 hw7
            have HG := Lib.hid hg7
            have HB7 := Lib.hid (below_grown HB6.out HB6.out.size hw7 (by omega))
            have hl6 := HRES.out.lies _ (HLI.out _ HP.out.lies)
            have HP7 := Lib.hid (HRES.out.rd.grown hl6 hw7 (by omega))
            have HLZ : Hid (∀ S : Nat → Prop, Lies q s S → Lies q6 s' (fun b => S b ∨ w.heap.size ≤ b)) := Lib.hid (fun S hS => (HRES.out.lies _ (HLI.out S hS)).mono (fun b hb => by first | exact hb.imp id (fun h => by omega) | exact hb.elim (fun h => h.imp id (fun h => by omega)) (fun h => .inr (by omega))))
            clear hg7 hw7 hl6
            go_wp2
            refine bodyPost_ret (results_S Tryz.results83 _ _ (w.heap.size + 2) 28 _ _ rfl HG.out Tryz.underlying28 rfl 15 infoSt rfl _ rfl) rfl ?_
            exact ⟨q6, rfl, ⟨HP7.out, HLZ.out⟩, HB7.out⟩
  · have hr := HR.out
    have ht0 : thr m (if is then 0 else -13) = m := by unfold thr; rw [if_neg hm0]
    have hfn : (if k = 118 then giveD x (s1, m) c else if k = 119 then emitD (s1, m) [2, c] else if nw = true then emitD (s1, m) [c] else emitD (s1, m) [2, c, 12]) = (s1, m) := by
      rw [giveD_no hm0, emitD_no hm0, emitD_no hm0, emitD_no hm0]
      split
      · rfl
      · split
        · rfl
        · split <;> rfl
    rw [ht0, hfn, fin_no hm0] at hr
    injection hr with ha hb
    subst ha hb
    clear ht0 hfn
    go_wp2_with (refine wp_storeS rfl 28 _ _ rfl (w.heap.size + 2) (stL nilA zeroP) rfl rfl 28 _ HR2.out 15 infoSt rfl rfl rfl ?_)
    intro w4 hg4 hw4
    have HG := Lib.hid hg4
    have HB4 := Lib.hid (below_grown HB2.out HB2.out.size hw4 (by omega))
    clear hg4 hw4
    go_wp2
    refine bodyPost_ret (results_S Tryz.results83 _ _ (w.heap.size + 2) 28 _ _ rfl HG.out Tryz.underlying28 rfl 15 infoSt rfl _ rfl) rfl ?_
    exact ⟨nilA, rfl, Res.zero _ _ _ _, HB4.out⟩
theorem ix0_run (s : ByteArray) (h : 0 < s.size) (w : World) : (Instr.index 9 (.string s) (.int .i64 0)).run Tryz.prog w = .ok (.int .u8 (bt s 0)) w := by
  have hgt := get_bt s 0 h
  go_simp
theorem cv_run (v : Int) (h0 : 0 ≤ v) (h1 : v < 256) (w : World) : (convert 5 3 (.int .u8 v)).run Tryz.prog w = .ok (.int .i64 v) w := by
  have hwb : IntKind.i64.wrap v = v := IntWalk.i64_in _ (by omega)
  go_simp
theorem b2_run (a b : Int) (w : World) : (Instr.buildSlice 23 2 #[(0, .int .i64 a), (1, .int .i64 b)]).run Tryz.prog w = .ok (.slice (some ⟨w.heap.size, 0, none⟩) 2 2) (w.alloc (.cells #[.int .i64 a, .int .i64 b] 3 (0, 0))) := by
  go_simp
set_option maxRecDepth 100000 in
set_option maxHeartbeats 4000000 in
theorem RChars_go (k : Int) (q : Ad) (s : Ps) (x : Sx) (s' : Ps) (e' : Int) (w : World) (hr : fin (if k = 125 then charGD x (s, 0) else bcharD x (s, 0)) = (s', e')) (hp : RdP w q s) (hsz : x.src.size ≤ 200) (hz : SzD s) :
    Calls Tryz.prog 84 #[stV q s, suV x, .int .i64 k] w fun e w' => ∃ q', e = .returned (.tuple #[stV q' s', .int .i64 e']) ∧ Res w.heap.size q s w' q' s' ∧ Below w.heap.size w w' := by
  have HTS := Lib.hid (tok_size x s hsz)
  have hs2 : x.src.size ≤ maxLen := by unfold maxLen; omega
  obtain ⟨s1, hs1⟩ : ∃ s1 : Ps, { s with pos := (tokB x.src s.pos : Int) } = s1 := ⟨_, rfl⟩
  obtain ⟨tok, htok⟩ : ∃ t, tokS x s = t := ⟨_, rfl⟩
  have hcd : charD x (s, 0) = (s1, if tok.size = 0 then -16 else 0) := by rw [← htok, ← hs1]; rfl
  have hcv : charV x s = if tok.size = 0 then 0 else bt tok 0 := by rw [← htok]; rfl
  unfold charGD bcharD at hr
  simp only at hr
  rw [hcd, hcv] at hr
  have hF : s1.mem = s.mem ∧ s1.spots = s.spots ∧ s1.data = s.data := by rw [← hs1]; exact ⟨rfl, rfl, rfl⟩
  have HF := Lib.hid hF
  rw [htok] at HTS
  have HTK := Lib.hid htok
  have HS1 := Lib.hid hs1
  have HR := Lib.hid hr
  have HZ := Lib.hid hz
  have HP1 : Hid (RdP w q s1) := Lib.hid (by rw [← hs1]; exact hp.withPos _)
  have HLI : Hid (∀ S, Lies q s S → Lies q s1 S) := Lib.hid (fun S h => by rw [← hs1]; exact h.withPos _)
  clear hr htok hs1 hF hcd hcv hz
  have hB0 := below_two (below_two (below_lit w (.cells (stL q s).toArray 28)) (below_lit _ (.cells (suL x).toArray 30))) (below_lit _ (.cells (stL nilA zeroP).toArray 28))
  have hS : Bx (((w.alloc (.cells (stL q s).toArray 28)).alloc (.cells (suL x).toArray 30)).alloc (.cells (stL nilA zeroP).toArray 28)) w.heap.size 28 (stL q s) := ((Bx.new w _ _ _ _ rfl rfl).alloc _).alloc _
  have hX : Bx (((w.alloc (.cells (stL q s).toArray 28)).alloc (.cells (suL x).toArray 30)).alloc (.cells (stL nilA zeroP).toArray 28)) (w.heap.size + 1) 30 (suL x) := (Bx.new _ _ _ _ _ (by simp) rfl).alloc _
  have hR : Bx (((w.alloc (.cells (stL q s).toArray 28)).alloc (.cells (suL x).toArray 30)).alloc (.cells (stL nilA zeroP).toArray 28)) (w.heap.size + 2) 28 (stL nilA zeroP) := Bx.new _ _ _ _ _ (by simp) rfl
  obtain ⟨W, hW⟩ : ∃ W, (((w.alloc (.cells #[.slice q.m s.mem.length q.mc, .slice q.d s.data.length q.dc, .slice q.r s.ret.length q.rc, .slice q.c s.ctl.length q.cc, .slice q.w s.words.length q.wc, .slice q.s s.spots.length q.sc, .slice q.o s.out.length q.oc, .int .i64 s.ip, .int .i64 s.here, .int .i64 s.pos, .int .i64 s.tok, .int .i64 s.inp, .int .i64 s.err, .bool s.comp, .bool s.halt] 28)).alloc (.cells #[.string x.src, .slice x.iA x.iN x.iC, .int .i64 x.size, .int .i64 x.depth, .int .i64 x.room] 30)).alloc (.cells #[.slice none 0 0, .slice none 0 0, .slice none 0 0, .slice none 0 0, .slice none 0 0, .slice none 0 0, .slice none 0 0, .int .i64 0, .int .i64 0, .int .i64 0, .int .i64 0, .int .i64 0, .int .i64 0, .bool false, .bool false] 28)) = W := ⟨_, rfl⟩
  have HB0 : Hid (Below w.heap.size w W) := Lib.hid (by rw [← hW]; exact hB0)
  have HA0 : Hid (Bx W w.heap.size 28 (stL q s)) := Lib.hid (by rw [← hW]; exact hS)
  have HX0 : Hid (Bx W (w.heap.size + 1) 30 (suL x)) := Lib.hid (by rw [← hW]; exact hX)
  have HR0 : Hid (Bx W (w.heap.size + 2) 28 (stL nilA zeroP)) := Lib.hid (by rw [← hW]; exact hR)
  have HP : Hid (RdP w q s) := Lib.hid hp
  have HWW := Lib.hid hW
  clear hp hB0 hS hX hR hW
  rw [stV_eq q s, suV_eq x]
  go_enter Tryz.func84, Tryz.ntmps84
  go_upto_region 1 with fail
  rw [HWW.out]
  have hW2 : w.heap.size + 2 < W.heap.size := HR0.out.lt
  have x0 : W.cell? ⟨w.heap.size + 1, 0, none⟩ = some (.string x.src) := HX0.out.cell 0
  have c9 : W.cell? ⟨w.heap.size, 9, none⟩ = some (.int .i64 s.pos) := HA0.out.cell 9
  go_wp2_with fail
  refine (L06.RToken_any x.src s.pos W hs2).mono ?_
  rintro r w1 ⟨rfl, rfl⟩
  rw [show x.src.extract (tokA x.src s.pos) (tokB x.src s.pos) = tok from HTK.out]
  by_cases h0 : tok.size = 0
  · have hem : tok.toList.isEmpty = true := by rw [toList_empty tok]; simpa using h0
    have h0' : (tok.size : Int) = 0 := by omega
    have hr := HR.out
    rw [if_pos h0, if_pos h0, giveD_no (by decide), emitD_no (by decide)] at hr
    have e1 : (if k = 125 then (s1, (-16 : Int)) else (s1, -16)) = (s1, -16) := by split <;> rfl
    rw [e1, fin_no (by decide)] at hr
    injection hr with ha hb
    subst ha hb
    clear e1
    go_wp2_with (refine wp_storeS rfl 28 _ _ rfl (w.heap.size + 2) (stL nilA zeroP) rfl rfl 28 _ HR0.out 15 infoSt rfl rfl rfl ?_)
    intro w4 hg4 hw4
    have HG := Lib.hid hg4
    have HB4 := Lib.hid (below_grown HB0.out HB0.out.size hw4 (by omega))
    clear hg4 hw4
    go_wp2
    refine bodyPost_ret (results_S Tryz.results84 _ _ (w.heap.size + 2) 28 _ _ rfl HG.out Tryz.underlying28 rfl 15 infoSt rfl _ rfl) rfl ?_
    exact ⟨nilA, rfl, Res.zero _ _ _ _, HB4.out⟩
  · have hem : tok.toList.isEmpty = false := by rw [toList_empty tok]; simpa using h0
    have h0' : ¬ (tok.size : Int) = 0 := by omega
    have hlt : 0 < tok.size := Nat.pos_of_ne_zero h0
    have hbr := bt_range tok 0
    obtain ⟨b, hb⟩ : ∃ b, bt tok 0 = b := ⟨_, rfl⟩
    have hr := HR.out
    rw [if_neg h0, if_neg h0, hb] at hr
    rw [hb] at hbr
    have HBT := Lib.hid hb
    have HRR := Lib.hid hr
    clear hr HR hb
    go_wp2_with (refine wp_storeF rfl 3 _ _ rfl w.heap.size 9 _ rfl rfl rfl 28 _ HA0.out 15 rfl (by decide) info1i ?_)
    intro w2 hg2 hw2
    have HA2 : Hid (Bx w2 w.heap.size 28 (stL q s1)) := Lib.hid (by rw [← HS1.out]; exact hg2)
    have HX2 := Lib.hid (HX0.out.grown hw2 (by omega))
    have HR2 := Lib.hid (HR0.out.grown hw2 (by omega))
    have HB2 := Lib.hid (below_grown HB0.out HB0.out.size hw2 (Nat.le_refl _))
    have hW22 : W.heap.size ≤ w2.heap.size := hw2.size
    have HP2 := Lib.hid (HP1.out.below HB2.out)
    clear hg2 hw2 x0 c9 HR0 HX0 HA0
    by_cases hk : k = 125
    · have hr := HRR.out
      rw [if_pos hk] at hr
      have HRS := Lib.hid hr
      clear hr HRR
      go_upto_region 6 with fail
      refine wp_region_oneS (w.heap.size + 2) (fun v => ∃ q6, Bx v (w.heap.size + 2) 28 (stL q6 s') ∧ RdP v q6 s' ∧ ∀ S, Lies q s1 S → Lies q6 s' (fun b => S b ∨ w2.heap.size ≤ b)) (fun v u h hb => by obtain ⟨q6, h1, h2, h3⟩ := h; exact ⟨q6, h1.below hb, h2.below hb, h3⟩) 8 [fun v _ => v = stV q s1, fun v _ => v = suV x, fun v _ => v = .string tok, fun v _ => v = .int .u8 b, fun v _ => v = .int .i64 b, fun v u => ∃ q2, v = .tuple #[stV q2 s', .int .i64 e'] ∧ Res w2.heap.size q s1 u q2 s', fun v u => ∃ q2, v = stV q2 s' ∧ Res w2.heap.size q s1 u q2 s', fun v _ => v = .int .i64 e', fun _ _ => True, fun v _ => v = .int .i64 e'] (fun | 3 => [2] | 4 => [3] | 5 => [0, 1, 4] | 6 => [5] | 7 => [5] | 8 => [6] | 9 => [7] | _ => []) _ rfl rfl (by kernel_rfl) (by kernel_rfl) (by decide) rfl ?_ ?_ ?_
      · intro i hi v u u' h hg
        match i, hi, h with
        | 0, _, h => exact h
        | 1, _, h => exact h
        | 2, _, h => exact h
        | 3, _, h => exact h
        | 4, _, h => exact h
        | 5, _, h => (obtain ⟨q2, h1, h2⟩ := h; exact ⟨q2, h1, h2.grown HP1.out hg (by omega) (by omega)⟩)
        | 6, _, h => (obtain ⟨q2, h1, h2⟩ := h; exact ⟨q2, h1, h2.grown HP1.out hg (by omega) (by omega)⟩)
        | 7, _, h => exact h
        | 8, _, h => exact h
        | 9, _, h => exact h
        | n + 10, hi, _ => exact absurd hi (by simp)
      · refine ⟨?_, ?_, ?_, ?_, ?_, ?_, ?_, ?_, ?_, ?_, trivial⟩
        · intro a v hg hj hd hf
          exact rg_load 28 _ rfl w.heap.size (hf 3 (by decide)) 28 _ _ (HA2.out.grown (g := w.heap.size) hg (by omega)) Tryz.underlying28 rfl 15 infoSt rfl ⟨_, rfl, .inl ⟨Below.refl _ _, by decide⟩, rfl⟩
        · intro a v hg hj hd hf
          exact rg_load 30 _ rfl (w.heap.size + 1) (hf 4 (by decide)) 30 _ _ (HX2.out.grown hg (by omega)) Tryz.underlying30 rfl 5 infoSx rfl ⟨_, rfl, .inl ⟨Below.refl _ _, by decide⟩, rfl⟩
        · intro a v hg hj hd hf
          exact rg_move _ rfl _ (hf 8 (by decide)) ⟨_, rfl, .inl ⟨Below.refl _ _, by decide⟩, rfl⟩
        · intro a v hg hj hd hf
          obtain ⟨_, e, rfl⟩ := hd 2 (by simp)
          refine rg_run (.int .u8 b) ?_ ⟨_, rfl, .inl ⟨Below.refl _ _, by decide⟩, rfl⟩
          unfold execOp
          simp only [e 30 rfl, show a.eval (.const (.int .i64 0)) = .int .i64 0 from rfl, Sem.run_bind, ix0_run tok hlt v, HBT.out, Sem.run_pure, Result.andThen_ok]
        · intro a v hg hj hd hf
          obtain ⟨_, e, rfl⟩ := hd 3 (by simp)
          refine rg_run (.int .i64 b) ?_ ⟨_, rfl, .inl ⟨Below.refl _ _, by decide⟩, rfl⟩
          unfold execOp
          simp only [e 31 rfl, Sem.run_bind, cv_run b hbr.1 hbr.2 v, Sem.run_pure, Result.andThen_ok]
        · intro a v hg hj hd hf
          obtain ⟨_, e0, rfl⟩ := hd 0 (by simp)
          obtain ⟨_, e1, rfl⟩ := hd 1 (by simp)
          obtain ⟨_, e4, rfl⟩ := hd 4 (by simp)
          have hsz2 := hg.size
          have hrd : RdP v q s1 := HP2.out.grown (HLI.out _ HP.out.lies) hg (by omega)
          refine rg_call 115 _ _ rfl #[stV q s1, suV x, .int .i64 b] (by simp [e0 28 rfl, e1 29 rfl, e4 32 rfl]) (by go_simp) _ (RGive_go q s1 x b s' e' v HRS.out hrd (by rw [HF.out.2.2]; have := HZ.out.data; omega)) ?_
          rintro r u ⟨q2, rfl, hres, hb⟩
          exact ⟨_, rfl, _, rfl, .inl ⟨hb, by decide⟩, q2, rfl, hres.mono (by omega)⟩
        · intro a v hg hj hd hf
          obtain ⟨_, e, q2, rfl, h2⟩ := hd 5 (by simp)
          exact rg_extract _ _ rfl _ (e 33 rfl) _ rfl ⟨_, rfl, .inl ⟨Below.refl _ _, by decide⟩, q2, rfl, h2⟩
        · intro a v hg hj hd hf
          obtain ⟨_, e, q2, rfl, h2⟩ := hd 5 (by simp)
          exact rg_extract _ _ rfl _ (e 33 rfl) _ rfl ⟨_, rfl, .inl ⟨Below.refl _ _, by decide⟩, rfl⟩
        · intro a v hg hj hd hf
          obtain ⟨_, e, q2, rfl, h2⟩ := hd 6 (by simp)
          refine rg_store 28 _ _ rfl (w.heap.size + 2) (stL q2 s') (hf 6 (by decide)) (e 34 rfl) 28 (stL nilA zeroP) (HR2.out.below (hj.resolve_right (fun h => h.1 rfl))) 15 infoSt rfl rfl (stL_one _ _) ?_
          intro u hbx hgr
          exact ⟨_, rfl, .inr ⟨rfl, hgr, q2, hbx, h2.rd.grown (h2.lies _ (HLI.out _ HP.out.lies)) hgr (by omega), h2.lies⟩, trivial⟩
        · intro a v hg hj hd hf
          obtain ⟨_, e, rfl⟩ := hd 7 (by simp)
          exact rg_assign _ rfl _ (e 35 rfl) ⟨_, rfl, .inl ⟨Below.refl _ _, by decide⟩, rfl⟩
      · intro V v hg hbx h
        have hv : V 9 = .int .i64 e' := h 9 (by decide)
        obtain ⟨q6, hb6, hr6, hl6⟩ := hbx
        have HG := Lib.hid hb6
        have HP6 := Lib.hid hr6
        have HB6 := Lib.hid (below_grown HB2.out HB2.out.size hg (by omega))
        have HL6 : Hid (∀ S : Nat → Prop, Lies q s S → Lies q6 s' (fun b => S b ∨ w.heap.size ≤ b)) := Lib.hid (fun S hS => (hl6 S (HLI.out S hS)).mono (fun b hb => hb.imp id (fun h => by omega)))
        clear hb6 hr6 hl6 hg h
        simp only [List.map_cons, List.map_nil, putD, Act.put, List.setIfInBounds_toArray, List.set_cons_succ, List.set_cons_zero, Nat.reduceAdd, Nat.zero_add, hv]
        clear hv
        go_wp2_with fail
        refine bodyPost_ret (results_S Tryz.results84 _ _ (w.heap.size + 2) 28 _ _ rfl HG.out Tryz.underlying28 rfl 15 infoSt rfl _ rfl) rfl ?_
        exact ⟨q6, rfl, ⟨HP6.out, HL6.out⟩, HB6.out⟩
    · have hr := HRR.out
      rw [if_neg hk, fin_emitD] at hr
      injection hr with ha hb
      have HE1 := Lib.hid ha
      have HE2 := Lib.hid hb
      clear ha hb HRR
      go_upto_region 7 with fail
      refine wp_region_oneS (w.heap.size + 2) (fun v => ∃ q6, Bx v (w.heap.size + 2) 28 (stL q6 s') ∧ RdP v q6 s' ∧ ∀ S, Lies q s1 S → Lies q6 s' (fun b => S b ∨ w2.heap.size ≤ b)) (fun v u h hb => by obtain ⟨q6, h1, h2, h3⟩ := h; exact ⟨q6, h1.below hb, h2.below hb, h3⟩) 8 [fun v _ => v = stV q s1, fun v _ => v = .string tok, fun v _ => v = .int .u8 b, fun v _ => v = .int .i64 b, fun v u => ∃ m, v = .slice (some ⟨m, 0, none⟩) 2 2 ∧ m ≠ w.heap.size + 2 ∧ RdI u .i64 (some ⟨m, 0, none⟩) 2 [2, b], fun v u => ∃ q2, v = .tuple #[stV q2 s', .int .i64 e'] ∧ Res w2.heap.size q s1 u q2 s', fun v u => ∃ q2, v = stV q2 s' ∧ Res w2.heap.size q s1 u q2 s', fun v _ => v = .int .i64 e', fun _ _ => True, fun v _ => v = .int .i64 e'] (fun | 2 => [1] | 3 => [2] | 4 => [3] | 5 => [0, 4] | 6 => [5] | 7 => [5] | 8 => [6] | 9 => [7] | _ => []) _ rfl rfl (by kernel_rfl) (by kernel_rfl) (by decide) rfl ?_ ?_ ?_
      · intro i hi v u u' h hg
        match i, hi, h with
        | 0, _, h => exact h
        | 1, _, h => exact h
        | 2, _, h => exact h
        | 3, _, h => exact h
        | 4, _, h => (obtain ⟨m, h1, h2, h3⟩ := h; exact ⟨m, h1, h2, rd_grown h3 hg (fun ad e => by cases e; exact h2)⟩)
        | 5, _, h => (obtain ⟨q2, h1, h2⟩ := h; exact ⟨q2, h1, h2.grown HP1.out hg (by omega) (by omega)⟩)
        | 6, _, h => (obtain ⟨q2, h1, h2⟩ := h; exact ⟨q2, h1, h2.grown HP1.out hg (by omega) (by omega)⟩)
        | 7, _, h => exact h
        | 8, _, h => exact h
        | 9, _, h => exact h
        | n + 10, hi, _ => exact absurd hi (by simp)
      · refine ⟨?_, ?_, ?_, ?_, ?_, ?_, ?_, ?_, ?_, ?_, trivial⟩
        · intro a v hg hj hd hf
          exact rg_load 28 _ rfl w.heap.size (hf 3 (by decide)) 28 _ _ (HA2.out.grown (g := w.heap.size) hg (by omega)) Tryz.underlying28 rfl 15 infoSt rfl ⟨_, rfl, .inl ⟨Below.refl _ _, by decide⟩, rfl⟩
        · intro a v hg hj hd hf
          exact rg_move _ rfl _ (hf 8 (by decide)) ⟨_, rfl, .inl ⟨Below.refl _ _, by decide⟩, rfl⟩
        · intro a v hg hj hd hf
          obtain ⟨_, e, rfl⟩ := hd 1 (by simp)
          refine rg_run (.int .u8 b) ?_ ⟨_, rfl, .inl ⟨Below.refl _ _, by decide⟩, rfl⟩
          unfold execOp
          simp only [e 37 rfl, show a.eval (.const (.int .i64 0)) = .int .i64 0 from rfl, Sem.run_bind, ix0_run tok hlt v, HBT.out, Sem.run_pure, Result.andThen_ok]
        · intro a v hg hj hd hf
          obtain ⟨_, e, rfl⟩ := hd 2 (by simp)
          refine rg_run (.int .i64 b) ?_ ⟨_, rfl, .inl ⟨Below.refl _ _, by decide⟩, rfl⟩
          unfold execOp
          simp only [e 38 rfl, Sem.run_bind, cv_run b hbr.1 hbr.2 v, Sem.run_pure, Result.andThen_ok]
        · intro a v hg hj hd hf
          obtain ⟨_, e, rfl⟩ := hd 3 (by simp)
          have hsz2 := hg.size
          refine rg_runw (.slice (some ⟨v.heap.size, 0, none⟩) 2 2) (v.alloc (.cells #[.int .i64 2, .int .i64 b] 3 (0, 0))) ?_ ⟨_, rfl, .inl ⟨below_lit _ _, by decide⟩, v.heap.size, rfl, by omega, rd_two v 2 b⟩
          unfold execOp
          simp only [List.map_toArray, List.map_cons, List.map_nil, e 39 rfl, show a.eval (.const (.int .i64 2)) = .int .i64 2 from rfl, Sem.run_bind, b2_run, Sem.run_pure, Result.andThen_ok]
        · intro a v hg hj hd hf
          obtain ⟨_, e0, rfl⟩ := hd 0 (by simp)
          obtain ⟨_, e4, m, rfl, _, h3⟩ := hd 4 (by simp)
          have hsz2 := hg.size
          have hrd : RdP v q s1 := HP2.out.grown (HLI.out _ HP.out.lies) hg (by omega)
          refine rg_call 82 _ _ rfl #[stV q s1, .slice (some ⟨m, 0, none⟩) 2 2] (by simp [e0 36 rfl, e4 40 rfl]) (by go_simp) _ (REmit_any q s1 (some ⟨m, 0, none⟩) 2 2 [2, b] s' e' v rfl HE1.out HE2.out hrd h3 (by rw [HF.out.1]; have := HZ.out.mem; omega) (by rw [HF.out.2.1]; have := HZ.out.spots; omega)) ?_
          rintro r u ⟨q2, rfl, hres, hb⟩
          exact ⟨_, rfl, _, rfl, .inl ⟨hb, by decide⟩, q2, rfl, hres.mono (by omega)⟩
        · intro a v hg hj hd hf
          obtain ⟨_, e, q2, rfl, h2⟩ := hd 5 (by simp)
          exact rg_extract _ _ rfl _ (e 41 rfl) _ rfl ⟨_, rfl, .inl ⟨Below.refl _ _, by decide⟩, q2, rfl, h2⟩
        · intro a v hg hj hd hf
          obtain ⟨_, e, q2, rfl, h2⟩ := hd 5 (by simp)
          exact rg_extract _ _ rfl _ (e 41 rfl) _ rfl ⟨_, rfl, .inl ⟨Below.refl _ _, by decide⟩, rfl⟩
        · intro a v hg hj hd hf
          obtain ⟨_, e, q2, rfl, h2⟩ := hd 6 (by simp)
          refine rg_store 28 _ _ rfl (w.heap.size + 2) (stL q2 s') (hf 6 (by decide)) (e 42 rfl) 28 (stL nilA zeroP) (HR2.out.below (hj.resolve_right (fun h => h.1 rfl))) 15 infoSt rfl rfl (stL_one _ _) ?_
          intro u hbx hgr
          exact ⟨_, rfl, .inr ⟨rfl, hgr, q2, hbx, h2.rd.grown (h2.lies _ (HLI.out _ HP.out.lies)) hgr (by omega), h2.lies⟩, trivial⟩
        · intro a v hg hj hd hf
          obtain ⟨_, e, rfl⟩ := hd 7 (by simp)
          exact rg_assign _ rfl _ (e 43 rfl) ⟨_, rfl, .inl ⟨Below.refl _ _, by decide⟩, rfl⟩
      · intro V v hg hbx h
        have hv : V 9 = .int .i64 e' := h 9 (by decide)
        obtain ⟨q6, hb6, hr6, hl6⟩ := hbx
        have HG := Lib.hid hb6
        have HP6 := Lib.hid hr6
        have HB6 := Lib.hid (below_grown HB2.out HB2.out.size hg (by omega))
        have HL6 : Hid (∀ S : Nat → Prop, Lies q s S → Lies q6 s' (fun b => S b ∨ w.heap.size ≤ b)) := Lib.hid (fun S hS => (hl6 S (HLI.out S hS)).mono (fun b hb => hb.imp id (fun h => by omega)))
        clear hb6 hr6 hl6 hg h
        simp only [List.map_cons, List.map_nil, putD, Act.put, List.setIfInBounds_toArray, List.set_cons_succ, List.set_cons_zero, Nat.reduceAdd, Nat.zero_add, hv]
        clear hv
        go_wp2_with fail
        refine bodyPost_ret (results_S Tryz.results84 _ _ (w.heap.size + 2) 28 _ _ rfl HG.out Tryz.underlying28 rfl 15 infoSt rfl _ rfl) rfl ?_
        exact ⟨q6, rfl, ⟨HP6.out, HL6.out⟩, HB6.out⟩
end Go.Proofs.YtappfhjknihboaaGreatDoor
