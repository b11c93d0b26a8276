
/- The walk of AsmLays. -/
import Derived.Test.YtiliddklaklekaaDoorLaws10b
import Derived.Test.YtiliddklaklekaaDoorREmit10
import Derived.Test.YtiliddklaklekaaDoorSame10b
namespace Go.Proofs.YtiliddklaklekaaDoor
open Go.RowKit

/-- No list is longer (but the spots, by so many). -/
structure LeS (s' s : Ps) (k : Nat) : Prop where
  data : s'.data.length ≤ s.data.length
  ret : s'.ret.length ≤ s.ret.length
  ctl : s'.ctl.length ≤ s.ctl.length
  words : s'.words.length ≤ s.words.length
  spots : s'.spots.length ≤ s.spots.length + k
theorem LeS.zero (s : Ps) (k : Nat) : LeS zeroP s k := ⟨Nat.zero_le _, Nat.zero_le _, Nat.zero_le _, Nat.zero_le _, Nat.zero_le _⟩
theorem LeS.patch (s : Ps) (i v : Int) : LeS (patchS s i v) s 0 := by
  unfold patchS
  split
  · exact ⟨Nat.le_refl _, Nat.le_refl _, Nat.le_refl _, Nat.le_refl _, Nat.le_refl _⟩
  · exact LeS.zero _ _
theorem LeS.comma (s : Ps) (v : Int) : LeS (commaS s v) s 0 := by
  unfold commaS
  split
  · exact ⟨Nat.le_refl _, Nat.le_refl _, Nat.le_refl _, Nat.le_refl _, Nat.le_refl _⟩
  · exact LeS.zero _ _
theorem LeS.emit : ∀ (l : List Int) (s : Ps), LeS (emitS s l) s l.length
  | [], s => ⟨Nat.le_refl _, Nat.le_refl _, Nat.le_refl _, Nat.le_refl _, Nat.le_refl _⟩
  | v :: r, s => by
    by_cases h : commaE s = 0
    · have ih := LeS.emit r (layS s v)
      have hl := layS_rest (v := v) h
      have hs := layS_spots (v := v) h
      rw [emitS, if_pos h]
      refine ⟨?_, ?_, ?_, ?_, ?_⟩
      · have := ih.data; rw [hl] at this ⊢; exact this
      · have := ih.ret; rw [hl] at this ⊢; exact this
      · have := ih.ctl; rw [hl] at this ⊢; exact this
      · have := ih.words; rw [hl] at this ⊢; exact this
      · have := ih.spots
        rw [List.length_cons]
        omega
    · rw [emitS, if_neg h]
      exact LeS.zero _ _

set_option maxRecDepth 100000 in
set_option maxHeartbeats 8000000 in
theorem AsmLays_walk (q : Ad) (s : Ps) (A : Option Addr) (c : Nat) (l : List Int) (i : Int) (w : World) (hp : RdP w q s) (hx : RdI w .i64 A c l) (ht : Tab w) :
    Calls Tryd.prog 3 #[stV q s, .slice A l.length c, .int .i64 i] w fun e w' => e = .returned (.bool true) ∧ Below w.heap.size w w' := by
  have HP := Lib.hid hp
  have HX := Lib.hid hx
  have HT := Lib.hid ht
  have HB0 := Lib.hid (below_lit w (.cells (stL q s).toArray 28))
  have HG0 : Hid (Bx (w.alloc (.cells (stL q s).toArray 28)) w.heap.size 28 (stL q s)) := Lib.hid (Bx.new w _ _ _ _ rfl rfl)
  clear hp hx ht
  rw [stV_eq q s]
  go_enter Tryd.func3, Tryd.ntmps3
  go_wp2_with fail
  refine (awake_any _ (HT.out.below HB0.out)).mono ?_
  rintro e w1 ⟨rfl, hb⟩
  have HB := Lib.hid (below_two HB0.out hb)
  have HG := Lib.hid (HG0.out.below hb)
  clear hb HB0 HG0
  go_wp2_with (refine wp_loadS rfl 28 _ rfl w.heap.size rfl 28 (stL q s) _ HG.out Tryd.underlying28 rfl 15 infoSt rfl ?_)
  refine (Few_any q s w1 (HP.out.below HB.out)).mono ?_
  rintro e w2 ⟨⟨b, rfl, hf⟩, hb⟩
  have HF := Lib.hid hf
  have HB := Lib.hid (below_two HB.out hb)
  have HG := Lib.hid (HG.out.below hb)
  clear hb hf
  cases b with
  | false =>
    go_wp2
    go_ret
    exact ⟨rfl, HB.out⟩
  | true =>
    by_cases h20 : 20 < l.length
    · go_wp2
      go_ret
      exact ⟨rfl, HB.out⟩
    · have hfs := HF.out rfl
      have HFS := Lib.hid hfs
      clear hfs HF
      have HL20 : Hid (l.length ≤ 20) := Lib.hid (by omega)
      have c0 : w2.cell? ⟨w.heap.size, 0, none⟩ = some (.slice q.m s.mem.length q.mc) := HG.out.cell 0
      have v0 := conv_rd (P := Tryd.prog) Tryd.underlying22 Tryd.underlying5 Tryd.underlying9 (HP.out.below HB.out).mem
      by_cases hl0 : 0 < l.length
      · obtain ⟨ad, rfl, e0⟩ := RdI.at_ (HX.out.below HB.out) hl0
        obtain ⟨x, hx⟩ : ∃ x, l.getD 0 0 = x := ⟨_, rfl⟩
        rw [hx] at e0
        have e1 : w2.cell? ad = some (.int .i64 x) := e0
        clear hx
        obtain ⟨sc, hsc⟩ : ∃ t, commaS s x = t := ⟨_, rfl⟩
        have HLEsc : Hid (LeS sc s 0) := Lib.hid (by rw [← hsc]; exact LeS.comma s x)
        have HEsc := Lib.hid hsc
        clear hsc
        obtain ⟨se, hse⟩ : ∃ t, emitS s l = t := ⟨_, rfl⟩
        have HLEse : Hid (LeS se s l.length) := Lib.hid (by rw [← hse]; exact LeS.emit l s)
        have HEse := Lib.hid hse
        clear hse
        obtain ⟨sp, hsp⟩ : ∃ t, patchS s i x = t := ⟨_, rfl⟩
        have HLEsp : Hid (LeS sp s 0) := Lib.hid (by rw [← hsp]; exact LeS.patch s i x)
        have HEsp := Lib.hid hsp
        clear hsp
        obtain ⟨ec, hec⟩ : ∃ t, commaE s = t := ⟨_, rfl⟩
        have HEec := Lib.hid hec
        clear hec
        obtain ⟨ee, hee⟩ : ∃ t, emitE s l = t := ⟨_, rfl⟩
        have HEee := Lib.hid hee
        clear hee
        obtain ⟨ep, hep⟩ : ∃ t, patchE s i = t := ⟨_, rfl⟩
        have HEep := Lib.hid hep
        clear hep
        go_wp2_with (refine wp_loadS rfl 28 _ rfl w.heap.size rfl 28 (stL q s) _ HG.out Tryd.underlying28 rfl 15 infoSt rfl ?_)
        clear c0 v0 e0 e1
        refine (Comma_any q s x sc ec w2 HEsc.out HEec.out (HP.out.below HB.out) (by have := HFS.out.mem; omega)).mono ?_
        rintro e v1 ⟨q1, rfl, hr, hb⟩
        have HB := Lib.hid (below_two HB.out hb)
        have HG := Lib.hid (HG.out.below hb)
        have HR1 := Lib.hid hr.rd
        clear hr hb
        rw [stV_eq q1 sc]
        obtain ⟨W1, hW⟩ : ∃ W, v1.alloc (.cells #[.slice q1.m sc.mem.length q1.mc, .slice q1.d sc.data.length q1.dc, .slice q1.r sc.ret.length q1.rc, .slice q1.c sc.ctl.length q1.cc, .slice q1.w sc.words.length q1.wc, .slice q1.s sc.spots.length q1.sc, .slice q1.o sc.out.length q1.oc, .int .i64 sc.ip, .int .i64 sc.here, .int .i64 sc.pos, .int .i64 sc.tok, .int .i64 sc.inp, .int .i64 sc.err, .bool sc.comp, .bool sc.halt] 28) = W := ⟨_, rfl⟩
        have hbl : Below v1.heap.size v1 W1 := by rw [← hW]; exact below_lit _ _
        have HB := Lib.hid (below_two HB.out hbl)
        have HG := Lib.hid (HG.out.below hbl)
        have HR1 := Lib.hid (HR1.out.below hbl)
        have HT1 : Hid (Bx W1 v1.heap.size 28 (stL q1 sc)) := Lib.hid (by rw [← hW]; exact Bx.new _ _ _ _ _ rfl rfl)
        have HWW := Lib.hid hW
        clear hbl hW
        go_wp2_with (refine wp_loadS rfl 28 _ rfl w.heap.size rfl 28 (stL q s) _ (by rw [HWW.out]; exact HG.out) Tryd.underlying28 rfl 15 infoSt rfl ?_)
        rw [HWW.out]
        refine (RComma_any q s x sc ec W1 HEsc.out HEec.out (HP.out.below HB.out) (by have := HFS.out.mem; omega)).mono ?_
        rintro e v2 ⟨q2, rfl, hr, hb⟩
        have HB := Lib.hid (below_two HB.out hb)
        have HG := Lib.hid (HG.out.below hb)
        have HT1 := Lib.hid (HT1.out.below hb)
        have HR1 := Lib.hid (HR1.out.below hb)
        have HR2 := Lib.hid hr.rd
        clear hr hb HWW
        rw [stV_eq q2 sc]
        obtain ⟨W2, hW⟩ : ∃ W, v2.alloc (.cells #[.slice q2.m sc.mem.length q2.mc, .slice q2.d sc.data.length q2.dc, .slice q2.r sc.ret.length q2.rc, .slice q2.c sc.ctl.length q2.cc, .slice q2.w sc.words.length q2.wc, .slice q2.s sc.spots.length q2.sc, .slice q2.o sc.out.length q2.oc, .int .i64 sc.ip, .int .i64 sc.here, .int .i64 sc.pos, .int .i64 sc.tok, .int .i64 sc.inp, .int .i64 sc.err, .bool sc.comp, .bool sc.halt] 28) = W := ⟨_, rfl⟩
        have hbl : Below v2.heap.size v2 W2 := by rw [← hW]; exact below_lit _ _
        have HB := Lib.hid (below_two HB.out hbl)
        have HG := Lib.hid (HG.out.below hbl)
        have HT1 := Lib.hid (HT1.out.below hbl)
        have HR1 := Lib.hid (HR1.out.below hbl)
        have HR2 := Lib.hid (HR2.out.below hbl)
        have HT2 : Hid (Bx W2 v2.heap.size 28 (stL q2 sc)) := Lib.hid (by rw [← hW]; exact Bx.new _ _ _ _ _ rfl rfl)
        have HWW := Lib.hid hW
        clear hbl hW
        go_wp2_with (refine wp_loadS rfl 28 _ rfl w.heap.size rfl 28 (stL q s) _ (by rw [HWW.out]; exact HG.out) Tryd.underlying28 rfl 15 infoSt rfl ?_)
        rw [HWW.out]
        refine (Emit_any q s (some ad) c l.length l se ee W2 rfl HEse.out HEee.out (HP.out.below HB.out) (HX.out.below HB.out) (by have := HFS.out.mem; omega) (by have := HFS.out.spots; have := HL20.out; omega)).mono ?_
        rintro e v3 ⟨q3, rfl, hr, hb⟩
        have HB := Lib.hid (below_two HB.out hb)
        have HG := Lib.hid (HG.out.below hb)
        have HT1 := Lib.hid (HT1.out.below hb)
        have HR1 := Lib.hid (HR1.out.below hb)
        have HT2 := Lib.hid (HT2.out.below hb)
        have HR2 := Lib.hid (HR2.out.below hb)
        have HR3 := Lib.hid hr.rd
        clear hr hb HWW
        rw [stV_eq q3 se]
        obtain ⟨W3, hW⟩ : ∃ W, v3.alloc (.cells #[.slice q3.m se.mem.length q3.mc, .slice q3.d se.data.length q3.dc, .slice q3.r se.ret.length q3.rc, .slice q3.c se.ctl.length q3.cc, .slice q3.w se.words.length q3.wc, .slice q3.s se.spots.length q3.sc, .slice q3.o se.out.length q3.oc, .int .i64 se.ip, .int .i64 se.here, .int .i64 se.pos, .int .i64 se.tok, .int .i64 se.inp, .int .i64 se.err, .bool se.comp, .bool se.halt] 28) = W := ⟨_, rfl⟩
        have hbl : Below v3.heap.size v3 W3 := by rw [← hW]; exact below_lit _ _
        have HB := Lib.hid (below_two HB.out hbl)
        have HG := Lib.hid (HG.out.below hbl)
        have HT1 := Lib.hid (HT1.out.below hbl)
        have HR1 := Lib.hid (HR1.out.below hbl)
        have HT2 := Lib.hid (HT2.out.below hbl)
        have HR2 := Lib.hid (HR2.out.below hbl)
        have HR3 := Lib.hid (HR3.out.below hbl)
        have HT3 : Hid (Bx W3 v3.heap.size 28 (stL q3 se)) := Lib.hid (by rw [← hW]; exact Bx.new _ _ _ _ _ rfl rfl)
        have HWW := Lib.hid hW
        clear hbl hW
        go_wp2_with (refine wp_loadS rfl 28 _ rfl w.heap.size rfl 28 (stL q s) _ (by rw [HWW.out]; exact HG.out) Tryd.underlying28 rfl 15 infoSt rfl ?_)
        rw [HWW.out]
        refine (REmit_any q s (some ad) c l.length l se ee W3 rfl HEse.out HEee.out (HP.out.below HB.out) (HX.out.below HB.out) (by have := HFS.out.mem; omega) (by have := HFS.out.spots; have := HL20.out; omega)).mono ?_
        rintro e v4 ⟨q4, rfl, hr, hb⟩
        have HB := Lib.hid (below_two HB.out hb)
        have HG := Lib.hid (HG.out.below hb)
        have HT1 := Lib.hid (HT1.out.below hb)
        have HR1 := Lib.hid (HR1.out.below hb)
        have HT2 := Lib.hid (HT2.out.below hb)
        have HR2 := Lib.hid (HR2.out.below hb)
        have HT3 := Lib.hid (HT3.out.below hb)
        have HR3 := Lib.hid (HR3.out.below hb)
        have HR4 := Lib.hid hr.rd
        clear hr hb HWW
        rw [stV_eq q4 se]
        obtain ⟨W4, hW⟩ : ∃ W, v4.alloc (.cells #[.slice q4.m se.mem.length q4.mc, .slice q4.d se.data.length q4.dc, .slice q4.r se.ret.length q4.rc, .slice q4.c se.ctl.length q4.cc, .slice q4.w se.words.length q4.wc, .slice q4.s se.spots.length q4.sc, .slice q4.o se.out.length q4.oc, .int .i64 se.ip, .int .i64 se.here, .int .i64 se.pos, .int .i64 se.tok, .int .i64 se.inp, .int .i64 se.err, .bool se.comp, .bool se.halt] 28) = W := ⟨_, rfl⟩
        have hbl : Below v4.heap.size v4 W4 := by rw [← hW]; exact below_lit _ _
        have HB := Lib.hid (below_two HB.out hbl)
        have HG := Lib.hid (HG.out.below hbl)
        have HT1 := Lib.hid (HT1.out.below hbl)
        have HR1 := Lib.hid (HR1.out.below hbl)
        have HT2 := Lib.hid (HT2.out.below hbl)
        have HR2 := Lib.hid (HR2.out.below hbl)
        have HT3 := Lib.hid (HT3.out.below hbl)
        have HR3 := Lib.hid (HR3.out.below hbl)
        have HR4 := Lib.hid (HR4.out.below hbl)
        have HT4 : Hid (Bx W4 v4.heap.size 28 (stL q4 se)) := Lib.hid (by rw [← hW]; exact Bx.new _ _ _ _ _ rfl rfl)
        have HWW := Lib.hid hW
        clear hbl hW
        go_wp2_with (refine wp_loadS rfl 28 _ rfl w.heap.size rfl 28 (stL q s) _ (by rw [HWW.out]; exact HG.out) Tryd.underlying28 rfl 15 infoSt rfl ?_)
        rw [HWW.out]
        refine (Patch_any q s i x sp ep W4 HEsp.out HEep.out (HP.out.below HB.out) (by have := HFS.out.mem; omega)).mono ?_
        rintro e v5 ⟨q5, rfl, hr, hb⟩
        have HB := Lib.hid (below_two HB.out hb)
        have HG := Lib.hid (HG.out.below hb)
        have HT1 := Lib.hid (HT1.out.below hb)
        have HR1 := Lib.hid (HR1.out.below hb)
        have HT2 := Lib.hid (HT2.out.below hb)
        have HR2 := Lib.hid (HR2.out.below hb)
        have HT3 := Lib.hid (HT3.out.below hb)
        have HR3 := Lib.hid (HR3.out.below hb)
        have HT4 := Lib.hid (HT4.out.below hb)
        have HR4 := Lib.hid (HR4.out.below hb)
        have HR5 := Lib.hid hr.rd
        clear hr hb HWW
        rw [stV_eq q5 sp]
        obtain ⟨W5, hW⟩ : ∃ W, v5.alloc (.cells #[.slice q5.m sp.mem.length q5.mc, .slice q5.d sp.data.length q5.dc, .slice q5.r sp.ret.length q5.rc, .slice q5.c sp.ctl.length q5.cc, .slice q5.w sp.words.length q5.wc, .slice q5.s sp.spots.length q5.sc, .slice q5.o sp.out.length q5.oc, .int .i64 sp.ip, .int .i64 sp.here, .int .i64 sp.pos, .int .i64 sp.tok, .int .i64 sp.inp, .int .i64 sp.err, .bool sp.comp, .bool sp.halt] 28) = W := ⟨_, rfl⟩
        have hbl : Below v5.heap.size v5 W5 := by rw [← hW]; exact below_lit _ _
        have HB := Lib.hid (below_two HB.out hbl)
        have HG := Lib.hid (HG.out.below hbl)
        have HT1 := Lib.hid (HT1.out.below hbl)
        have HR1 := Lib.hid (HR1.out.below hbl)
        have HT2 := Lib.hid (HT2.out.below hbl)
        have HR2 := Lib.hid (HR2.out.below hbl)
        have HT3 := Lib.hid (HT3.out.below hbl)
        have HR3 := Lib.hid (HR3.out.below hbl)
        have HT4 := Lib.hid (HT4.out.below hbl)
        have HR4 := Lib.hid (HR4.out.below hbl)
        have HR5 := Lib.hid (HR5.out.below hbl)
        have HT5 : Hid (Bx W5 v5.heap.size 28 (stL q5 sp)) := Lib.hid (by rw [← hW]; exact Bx.new _ _ _ _ _ rfl rfl)
        have HWW := Lib.hid hW
        clear hbl hW
        go_wp2_with (refine wp_loadS rfl 28 _ rfl w.heap.size rfl 28 (stL q s) _ (by rw [HWW.out]; exact HG.out) Tryd.underlying28 rfl 15 infoSt rfl ?_)
        rw [HWW.out]
        refine (RPatch_any q s i x sp ep W5 HEsp.out HEep.out (HP.out.below HB.out) (by have := HFS.out.mem; omega)).mono ?_
        rintro e v6 ⟨q6, rfl, hr, hb⟩
        have HB := Lib.hid (below_two HB.out hb)
        have HG := Lib.hid (HG.out.below hb)
        have HT1 := Lib.hid (HT1.out.below hb)
        have HR1 := Lib.hid (HR1.out.below hb)
        have HT2 := Lib.hid (HT2.out.below hb)
        have HR2 := Lib.hid (HR2.out.below hb)
        have HT3 := Lib.hid (HT3.out.below hb)
        have HR3 := Lib.hid (HR3.out.below hb)
        have HT4 := Lib.hid (HT4.out.below hb)
        have HR4 := Lib.hid (HR4.out.below hb)
        have HT5 := Lib.hid (HT5.out.below hb)
        have HR5 := Lib.hid (HR5.out.below hb)
        have HR6 := Lib.hid hr.rd
        clear hr hb HWW
        rw [stV_eq q6 sp]
        obtain ⟨W6, hW⟩ : ∃ W, v6.alloc (.cells #[.slice q6.m sp.mem.length q6.mc, .slice q6.d sp.data.length q6.dc, .slice q6.r sp.ret.length q6.rc, .slice q6.c sp.ctl.length q6.cc, .slice q6.w sp.words.length q6.wc, .slice q6.s sp.spots.length q6.sc, .slice q6.o sp.out.length q6.oc, .int .i64 sp.ip, .int .i64 sp.here, .int .i64 sp.pos, .int .i64 sp.tok, .int .i64 sp.inp, .int .i64 sp.err, .bool sp.comp, .bool sp.halt] 28) = W := ⟨_, rfl⟩
        have hbl : Below v6.heap.size v6 W6 := by rw [← hW]; exact below_lit _ _
        have HB := Lib.hid (below_two HB.out hbl)
        have HG := Lib.hid (HG.out.below hbl)
        have HT1 := Lib.hid (HT1.out.below hbl)
        have HR1 := Lib.hid (HR1.out.below hbl)
        have HT2 := Lib.hid (HT2.out.below hbl)
        have HR2 := Lib.hid (HR2.out.below hbl)
        have HT3 := Lib.hid (HT3.out.below hbl)
        have HR3 := Lib.hid (HR3.out.below hbl)
        have HT4 := Lib.hid (HT4.out.below hbl)
        have HR4 := Lib.hid (HR4.out.below hbl)
        have HT5 := Lib.hid (HT5.out.below hbl)
        have HR5 := Lib.hid (HR5.out.below hbl)
        have HR6 := Lib.hid (HR6.out.below hbl)
        have HT6 : Hid (Bx W6 v6.heap.size 28 (stL q6 sp)) := Lib.hid (by rw [← hW]; exact Bx.new _ _ _ _ _ rfl rfl)
        have HWW := Lib.hid hW
        clear hbl hW
        go_wp2_with (first | (refine wp_take rfl ?_; refine wp_loadS rfl 28 _ rfl v1.heap.size rfl 28 (stL q1 sc) _ (by rw [HWW.out]; exact HT1.out) Tryd.underlying28 rfl 15 infoSt rfl ?_) | (refine wp_take rfl ?_; refine wp_loadS rfl 28 _ rfl v2.heap.size rfl 28 (stL q2 sc) _ (by rw [HWW.out]; exact HT2.out) Tryd.underlying28 rfl 15 infoSt rfl ?_))
        rw [HWW.out]
        refine (Same_any q1 q2 sc W6 HR1.out HR2.out (by have := HLEsc.out.data; have := HFS.out.data; have := HL20.out; omega) (by have := HLEsc.out.ret; have := HFS.out.ret; have := HL20.out; omega) (by have := HLEsc.out.ctl; have := HFS.out.ctl; have := HL20.out; omega) (by have := HLEsc.out.words; have := HFS.out.words; have := HL20.out; omega) (by have := HLEsc.out.spots; have := HFS.out.spots; have := HL20.out; omega)).mono ?_
        rintro e u1 ⟨rfl, hb⟩
        have HB := Lib.hid (below_two HB.out hb)
        have HG := Lib.hid (HG.out.below hb)
        have HT3 := Lib.hid (HT3.out.below hb)
        have HR3 := Lib.hid (HR3.out.below hb)
        have HT4 := Lib.hid (HT4.out.below hb)
        have HR4 := Lib.hid (HR4.out.below hb)
        have HT5 := Lib.hid (HT5.out.below hb)
        have HR5 := Lib.hid (HR5.out.below hb)
        have HT6 := Lib.hid (HT6.out.below hb)
        have HR6 := Lib.hid (HR6.out.below hb)
        clear hb
        go_wp2_with (first | (refine wp_take rfl ?_; refine wp_loadS rfl 28 _ rfl v3.heap.size rfl 28 (stL q3 se) _ HT3.out Tryd.underlying28 rfl 15 infoSt rfl ?_) | (refine wp_take rfl ?_; refine wp_loadS rfl 28 _ rfl v4.heap.size rfl 28 (stL q4 se) _ HT4.out Tryd.underlying28 rfl 15 infoSt rfl ?_))
        refine (Same_any q3 q4 se u1 HR3.out HR4.out (by have := HLEse.out.data; have := HFS.out.data; have := HL20.out; omega) (by have := HLEse.out.ret; have := HFS.out.ret; have := HL20.out; omega) (by have := HLEse.out.ctl; have := HFS.out.ctl; have := HL20.out; omega) (by have := HLEse.out.words; have := HFS.out.words; have := HL20.out; omega) (by have := HLEse.out.spots; have := HFS.out.spots; have := HL20.out; omega)).mono ?_
        rintro e u2 ⟨rfl, hb⟩
        have HB := Lib.hid (below_two HB.out hb)
        have HG := Lib.hid (HG.out.below hb)
        have HT5 := Lib.hid (HT5.out.below hb)
        have HR5 := Lib.hid (HR5.out.below hb)
        have HT6 := Lib.hid (HT6.out.below hb)
        have HR6 := Lib.hid (HR6.out.below hb)
        clear hb
        go_wp2_with (first | (refine wp_take rfl ?_; refine wp_loadS rfl 28 _ rfl v5.heap.size rfl 28 (stL q5 sp) _ HT5.out Tryd.underlying28 rfl 15 infoSt rfl ?_) | (refine wp_take rfl ?_; refine wp_loadS rfl 28 _ rfl v6.heap.size rfl 28 (stL q6 sp) _ HT6.out Tryd.underlying28 rfl 15 infoSt rfl ?_))
        refine (Same_any q5 q6 sp u2 HR5.out HR6.out (by have := HLEsp.out.data; have := HFS.out.data; have := HL20.out; omega) (by have := HLEsp.out.ret; have := HFS.out.ret; have := HL20.out; omega) (by have := HLEsp.out.ctl; have := HFS.out.ctl; have := HL20.out; omega) (by have := HLEsp.out.words; have := HFS.out.words; have := HL20.out; omega) (by have := HLEsp.out.spots; have := HFS.out.spots; have := HL20.out; omega)).mono ?_
        rintro e u3 ⟨rfl, hb⟩
        have HB := Lib.hid (below_two HB.out hb)
        have HG := Lib.hid (HG.out.below hb)
        clear hb
        have c0 : u3.cell? ⟨w.heap.size, 0, none⟩ = some (.slice q.m s.mem.length q.mc) := HG.out.cell 0
        have v0 := conv_rd (P := Tryd.prog) Tryd.underlying22 Tryd.underlying5 Tryd.underlying9 (HP.out.below HB.out).mem
        go_wp2
        go_ret
        exact ⟨rfl, HB.out⟩
      · obtain rfl : l = [] := List.eq_nil_of_length_eq_zero (by omega)
        clear hl0 h20
        obtain ⟨sc, hsc⟩ : ∃ t, commaS s 0 = t := ⟨_, rfl⟩
        have HLEsc : Hid (LeS sc s 0) := Lib.hid (by rw [← hsc]; exact LeS.comma s 0)
        have HEsc := Lib.hid hsc
        clear hsc
        obtain ⟨se, hse⟩ : ∃ t, emitS s ([] : List Int) = t := ⟨_, rfl⟩
        have HLEse : Hid (LeS se s ([] : List Int).length) := Lib.hid (by rw [← hse]; exact LeS.emit ([] : List Int) s)
        have HEse := Lib.hid hse
        clear hse
        obtain ⟨sp, hsp⟩ : ∃ t, patchS s i 0 = t := ⟨_, rfl⟩
        have HLEsp : Hid (LeS sp s 0) := Lib.hid (by rw [← hsp]; exact LeS.patch s i 0)
        have HEsp := Lib.hid hsp
        clear hsp
        obtain ⟨ec, hec⟩ : ∃ t, commaE s = t := ⟨_, rfl⟩
        have HEec := Lib.hid hec
        clear hec
        obtain ⟨ee, hee⟩ : ∃ t, emitE s ([] : List Int) = t := ⟨_, rfl⟩
        have HEee := Lib.hid hee
        clear hee
        obtain ⟨ep, hep⟩ : ∃ t, patchE s i = t := ⟨_, rfl⟩
        have HEep := Lib.hid hep
        clear hep
        go_wp2_with (refine wp_loadS rfl 28 _ rfl w.heap.size rfl 28 (stL q s) _ HG.out Tryd.underlying28 rfl 15 infoSt rfl ?_)
        clear c0 v0
        refine (Comma_any q s 0 sc ec w2 HEsc.out HEec.out (HP.out.below HB.out) (by have := HFS.out.mem; omega)).mono ?_
        rintro e v1 ⟨q1, rfl, hr, hb⟩
        have HB := Lib.hid (below_two HB.out hb)
        have HG := Lib.hid (HG.out.below hb)
        have HR1 := Lib.hid hr.rd
        clear hr hb
        rw [stV_eq q1 sc]
        obtain ⟨W1, hW⟩ : ∃ W, v1.alloc (.cells #[.slice q1.m sc.mem.length q1.mc, .slice q1.d sc.data.length q1.dc, .slice q1.r sc.ret.length q1.rc, .slice q1.c sc.ctl.length q1.cc, .slice q1.w sc.words.length q1.wc, .slice q1.s sc.spots.length q1.sc, .slice q1.o sc.out.length q1.oc, .int .i64 sc.ip, .int .i64 sc.here, .int .i64 sc.pos, .int .i64 sc.tok, .int .i64 sc.inp, .int .i64 sc.err, .bool sc.comp, .bool sc.halt] 28) = W := ⟨_, rfl⟩
        have hbl : Below v1.heap.size v1 W1 := by rw [← hW]; exact below_lit _ _
        have HB := Lib.hid (below_two HB.out hbl)
        have HG := Lib.hid (HG.out.below hbl)
        have HR1 := Lib.hid (HR1.out.below hbl)
        have HT1 : Hid (Bx W1 v1.heap.size 28 (stL q1 sc)) := Lib.hid (by rw [← hW]; exact Bx.new _ _ _ _ _ rfl rfl)
        have HWW := Lib.hid hW
        clear hbl hW
        go_wp2_with (refine wp_loadS rfl 28 _ rfl w.heap.size rfl 28 (stL q s) _ (by rw [HWW.out]; exact HG.out) Tryd.underlying28 rfl 15 infoSt rfl ?_)
        rw [HWW.out]
        refine (RComma_any q s 0 sc ec W1 HEsc.out HEec.out (HP.out.below HB.out) (by have := HFS.out.mem; omega)).mono ?_
        rintro e v2 ⟨q2, rfl, hr, hb⟩
        have HB := Lib.hid (below_two HB.out hb)
        have HG := Lib.hid (HG.out.below hb)
        have HT1 := Lib.hid (HT1.out.below hb)
        have HR1 := Lib.hid (HR1.out.below hb)
        have HR2 := Lib.hid hr.rd
        clear hr hb HWW
        rw [stV_eq q2 sc]
        obtain ⟨W2, hW⟩ : ∃ W, v2.alloc (.cells #[.slice q2.m sc.mem.length q2.mc, .slice q2.d sc.data.length q2.dc, .slice q2.r sc.ret.length q2.rc, .slice q2.c sc.ctl.length q2.cc, .slice q2.w sc.words.length q2.wc, .slice q2.s sc.spots.length q2.sc, .slice q2.o sc.out.length q2.oc, .int .i64 sc.ip, .int .i64 sc.here, .int .i64 sc.pos, .int .i64 sc.tok, .int .i64 sc.inp, .int .i64 sc.err, .bool sc.comp, .bool sc.halt] 28) = W := ⟨_, rfl⟩
        have hbl : Below v2.heap.size v2 W2 := by rw [← hW]; exact below_lit _ _
        have HB := Lib.hid (below_two HB.out hbl)
        have HG := Lib.hid (HG.out.below hbl)
        have HT1 := Lib.hid (HT1.out.below hbl)
        have HR1 := Lib.hid (HR1.out.below hbl)
        have HR2 := Lib.hid (HR2.out.below hbl)
        have HT2 : Hid (Bx W2 v2.heap.size 28 (stL q2 sc)) := Lib.hid (by rw [← hW]; exact Bx.new _ _ _ _ _ rfl rfl)
        have HWW := Lib.hid hW
        clear hbl hW
        go_wp2_with (refine wp_loadS rfl 28 _ rfl w.heap.size rfl 28 (stL q s) _ (by rw [HWW.out]; exact HG.out) Tryd.underlying28 rfl 15 infoSt rfl ?_)
        rw [HWW.out]
        refine (Emit_any q s (A) c 0 ([] : List Int) se ee W2 rfl HEse.out HEee.out (HP.out.below HB.out) (HX.out.below HB.out) (by have := HFS.out.mem; omega) (by have := HFS.out.spots; have := HL20.out; omega)).mono ?_
        rintro e v3 ⟨q3, rfl, hr, hb⟩
        have HB := Lib.hid (below_two HB.out hb)
        have HG := Lib.hid (HG.out.below hb)
        have HT1 := Lib.hid (HT1.out.below hb)
        have HR1 := Lib.hid (HR1.out.below hb)
        have HT2 := Lib.hid (HT2.out.below hb)
        have HR2 := Lib.hid (HR2.out.below hb)
        have HR3 := Lib.hid hr.rd
        clear hr hb HWW
        rw [stV_eq q3 se]
        obtain ⟨W3, hW⟩ : ∃ W, v3.alloc (.cells #[.slice q3.m se.mem.length q3.mc, .slice q3.d se.data.length q3.dc, .slice q3.r se.ret.length q3.rc, .slice q3.c se.ctl.length q3.cc, .slice q3.w se.words.length q3.wc, .slice q3.s se.spots.length q3.sc, .slice q3.o se.out.length q3.oc, .int .i64 se.ip, .int .i64 se.here, .int .i64 se.pos, .int .i64 se.tok, .int .i64 se.inp, .int .i64 se.err, .bool se.comp, .bool se.halt] 28) = W := ⟨_, rfl⟩
        have hbl : Below v3.heap.size v3 W3 := by rw [← hW]; exact below_lit _ _
        have HB := Lib.hid (below_two HB.out hbl)
        have HG := Lib.hid (HG.out.below hbl)
        have HT1 := Lib.hid (HT1.out.below hbl)
        have HR1 := Lib.hid (HR1.out.below hbl)
        have HT2 := Lib.hid (HT2.out.below hbl)
        have HR2 := Lib.hid (HR2.out.below hbl)
        have HR3 := Lib.hid (HR3.out.below hbl)
        have HT3 : Hid (Bx W3 v3.heap.size 28 (stL q3 se)) := Lib.hid (by rw [← hW]; exact Bx.new _ _ _ _ _ rfl rfl)
        have HWW := Lib.hid hW
        clear hbl hW
        go_wp2_with (refine wp_loadS rfl 28 _ rfl w.heap.size rfl 28 (stL q s) _ (by rw [HWW.out]; exact HG.out) Tryd.underlying28 rfl 15 infoSt rfl ?_)
        rw [HWW.out]
        refine (REmit_any q s (A) c 0 ([] : List Int) se ee W3 rfl HEse.out HEee.out (HP.out.below HB.out) (HX.out.below HB.out) (by have := HFS.out.mem; omega) (by have := HFS.out.spots; have := HL20.out; omega)).mono ?_
        rintro e v4 ⟨q4, rfl, hr, hb⟩
        have HB := Lib.hid (below_two HB.out hb)
        have HG := Lib.hid (HG.out.below hb)
        have HT1 := Lib.hid (HT1.out.below hb)
        have HR1 := Lib.hid (HR1.out.below hb)
        have HT2 := Lib.hid (HT2.out.below hb)
        have HR2 := Lib.hid (HR2.out.below hb)
        have HT3 := Lib.hid (HT3.out.below hb)
        have HR3 := Lib.hid (HR3.out.below hb)
        have HR4 := Lib.hid hr.rd
        clear hr hb HWW
        rw [stV_eq q4 se]
        obtain ⟨W4, hW⟩ : ∃ W, v4.alloc (.cells #[.slice q4.m se.mem.length q4.mc, .slice q4.d se.data.length q4.dc, .slice q4.r se.ret.length q4.rc, .slice q4.c se.ctl.length q4.cc, .slice q4.w se.words.length q4.wc, .slice q4.s se.spots.length q4.sc, .slice q4.o se.out.length q4.oc, .int .i64 se.ip, .int .i64 se.here, .int .i64 se.pos, .int .i64 se.tok, .int .i64 se.inp, .int .i64 se.err, .bool se.comp, .bool se.halt] 28) = W := ⟨_, rfl⟩
        have hbl : Below v4.heap.size v4 W4 := by rw [← hW]; exact below_lit _ _
        have HB := Lib.hid (below_two HB.out hbl)
        have HG := Lib.hid (HG.out.below hbl)
        have HT1 := Lib.hid (HT1.out.below hbl)
        have HR1 := Lib.hid (HR1.out.below hbl)
        have HT2 := Lib.hid (HT2.out.below hbl)
        have HR2 := Lib.hid (HR2.out.below hbl)
        have HT3 := Lib.hid (HT3.out.below hbl)
        have HR3 := Lib.hid (HR3.out.below hbl)
        have HR4 := Lib.hid (HR4.out.below hbl)
        have HT4 : Hid (Bx W4 v4.heap.size 28 (stL q4 se)) := Lib.hid (by rw [← hW]; exact Bx.new _ _ _ _ _ rfl rfl)
        have HWW := Lib.hid hW
        clear hbl hW
        go_wp2_with (refine wp_loadS rfl 28 _ rfl w.heap.size rfl 28 (stL q s) _ (by rw [HWW.out]; exact HG.out) Tryd.underlying28 rfl 15 infoSt rfl ?_)
        rw [HWW.out]
        refine (Patch_any q s i 0 sp ep W4 HEsp.out HEep.out (HP.out.below HB.out) (by have := HFS.out.mem; omega)).mono ?_
        rintro e v5 ⟨q5, rfl, hr, hb⟩
        have HB := Lib.hid (below_two HB.out hb)
        have HG := Lib.hid (HG.out.below hb)
        have HT1 := Lib.hid (HT1.out.below hb)
        have HR1 := Lib.hid (HR1.out.below hb)
        have HT2 := Lib.hid (HT2.out.below hb)
        have HR2 := Lib.hid (HR2.out.below hb)
        have HT3 := Lib.hid (HT3.out.below hb)
        have HR3 := Lib.hid (HR3.out.below hb)
        have HT4 := Lib.hid (HT4.out.below hb)
        have HR4 := Lib.hid (HR4.out.below hb)
        have HR5 := Lib.hid hr.rd
        clear hr hb HWW
        rw [stV_eq q5 sp]
        obtain ⟨W5, hW⟩ : ∃ W, v5.alloc (.cells #[.slice q5.m sp.mem.length q5.mc, .slice q5.d sp.data.length q5.dc, .slice q5.r sp.ret.length q5.rc, .slice q5.c sp.ctl.length q5.cc, .slice q5.w sp.words.length q5.wc, .slice q5.s sp.spots.length q5.sc, .slice q5.o sp.out.length q5.oc, .int .i64 sp.ip, .int .i64 sp.here, .int .i64 sp.pos, .int .i64 sp.tok, .int .i64 sp.inp, .int .i64 sp.err, .bool sp.comp, .bool sp.halt] 28) = W := ⟨_, rfl⟩
        have hbl : Below v5.heap.size v5 W5 := by rw [← hW]; exact below_lit _ _
        have HB := Lib.hid (below_two HB.out hbl)
        have HG := Lib.hid (HG.out.below hbl)
        have HT1 := Lib.hid (HT1.out.below hbl)
        have HR1 := Lib.hid (HR1.out.below hbl)
        have HT2 := Lib.hid (HT2.out.below hbl)
        have HR2 := Lib.hid (HR2.out.below hbl)
        have HT3 := Lib.hid (HT3.out.below hbl)
        have HR3 := Lib.hid (HR3.out.below hbl)
        have HT4 := Lib.hid (HT4.out.below hbl)
        have HR4 := Lib.hid (HR4.out.below hbl)
        have HR5 := Lib.hid (HR5.out.below hbl)
        have HT5 : Hid (Bx W5 v5.heap.size 28 (stL q5 sp)) := Lib.hid (by rw [← hW]; exact Bx.new _ _ _ _ _ rfl rfl)
        have HWW := Lib.hid hW
        clear hbl hW
        go_wp2_with (refine wp_loadS rfl 28 _ rfl w.heap.size rfl 28 (stL q s) _ (by rw [HWW.out]; exact HG.out) Tryd.underlying28 rfl 15 infoSt rfl ?_)
        rw [HWW.out]
        refine (RPatch_any q s i 0 sp ep W5 HEsp.out HEep.out (HP.out.below HB.out) (by have := HFS.out.mem; omega)).mono ?_
        rintro e v6 ⟨q6, rfl, hr, hb⟩
        have HB := Lib.hid (below_two HB.out hb)
        have HG := Lib.hid (HG.out.below hb)
        have HT1 := Lib.hid (HT1.out.below hb)
        have HR1 := Lib.hid (HR1.out.below hb)
        have HT2 := Lib.hid (HT2.out.below hb)
        have HR2 := Lib.hid (HR2.out.below hb)
        have HT3 := Lib.hid (HT3.out.below hb)
        have HR3 := Lib.hid (HR3.out.below hb)
        have HT4 := Lib.hid (HT4.out.below hb)
        have HR4 := Lib.hid (HR4.out.below hb)
        have HT5 := Lib.hid (HT5.out.below hb)
        have HR5 := Lib.hid (HR5.out.below hb)
        have HR6 := Lib.hid hr.rd
        clear hr hb HWW
        rw [stV_eq q6 sp]
        obtain ⟨W6, hW⟩ : ∃ W, v6.alloc (.cells #[.slice q6.m sp.mem.length q6.mc, .slice q6.d sp.data.length q6.dc, .slice q6.r sp.ret.length q6.rc, .slice q6.c sp.ctl.length q6.cc, .slice q6.w sp.words.length q6.wc, .slice q6.s sp.spots.length q6.sc, .slice q6.o sp.out.length q6.oc, .int .i64 sp.ip, .int .i64 sp.here, .int .i64 sp.pos, .int .i64 sp.tok, .int .i64 sp.inp, .int .i64 sp.err, .bool sp.comp, .bool sp.halt] 28) = W := ⟨_, rfl⟩
        have hbl : Below v6.heap.size v6 W6 := by rw [← hW]; exact below_lit _ _
        have HB := Lib.hid (below_two HB.out hbl)
        have HG := Lib.hid (HG.out.below hbl)
        have HT1 := Lib.hid (HT1.out.below hbl)
        have HR1 := Lib.hid (HR1.out.below hbl)
        have HT2 := Lib.hid (HT2.out.below hbl)
        have HR2 := Lib.hid (HR2.out.below hbl)
        have HT3 := Lib.hid (HT3.out.below hbl)
        have HR3 := Lib.hid (HR3.out.below hbl)
        have HT4 := Lib.hid (HT4.out.below hbl)
        have HR4 := Lib.hid (HR4.out.below hbl)
        have HT5 := Lib.hid (HT5.out.below hbl)
        have HR5 := Lib.hid (HR5.out.below hbl)
        have HR6 := Lib.hid (HR6.out.below hbl)
        have HT6 : Hid (Bx W6 v6.heap.size 28 (stL q6 sp)) := Lib.hid (by rw [← hW]; exact Bx.new _ _ _ _ _ rfl rfl)
        have HWW := Lib.hid hW
        clear hbl hW
        go_wp2_with (first | (refine wp_take rfl ?_; refine wp_loadS rfl 28 _ rfl v1.heap.size rfl 28 (stL q1 sc) _ (by rw [HWW.out]; exact HT1.out) Tryd.underlying28 rfl 15 infoSt rfl ?_) | (refine wp_take rfl ?_; refine wp_loadS rfl 28 _ rfl v2.heap.size rfl 28 (stL q2 sc) _ (by rw [HWW.out]; exact HT2.out) Tryd.underlying28 rfl 15 infoSt rfl ?_))
        rw [HWW.out]
        refine (Same_any q1 q2 sc W6 HR1.out HR2.out (by have := HLEsc.out.data; have := HFS.out.data; have := HL20.out; omega) (by have := HLEsc.out.ret; have := HFS.out.ret; have := HL20.out; omega) (by have := HLEsc.out.ctl; have := HFS.out.ctl; have := HL20.out; omega) (by have := HLEsc.out.words; have := HFS.out.words; have := HL20.out; omega) (by have := HLEsc.out.spots; have := HFS.out.spots; have := HL20.out; omega)).mono ?_
        rintro e u1 ⟨rfl, hb⟩
        have HB := Lib.hid (below_two HB.out hb)
        have HG := Lib.hid (HG.out.below hb)
        have HT3 := Lib.hid (HT3.out.below hb)
        have HR3 := Lib.hid (HR3.out.below hb)
        have HT4 := Lib.hid (HT4.out.below hb)
        have HR4 := Lib.hid (HR4.out.below hb)
        have HT5 := Lib.hid (HT5.out.below hb)
        have HR5 := Lib.hid (HR5.out.below hb)
        have HT6 := Lib.hid (HT6.out.below hb)
        have HR6 := Lib.hid (HR6.out.below hb)
        clear hb
        go_wp2_with (first | (refine wp_take rfl ?_; refine wp_loadS rfl 28 _ rfl v3.heap.size rfl 28 (stL q3 se) _ HT3.out Tryd.underlying28 rfl 15 infoSt rfl ?_) | (refine wp_take rfl ?_; refine wp_loadS rfl 28 _ rfl v4.heap.size rfl 28 (stL q4 se) _ HT4.out Tryd.underlying28 rfl 15 infoSt rfl ?_))
        refine (Same_any q3 q4 se u1 HR3.out HR4.out (by have := HLEse.out.data; have := HFS.out.data; have := HL20.out; omega) (by have := HLEse.out.ret; have := HFS.out.ret; have := HL20.out; omega) (by have := HLEse.out.ctl; have := HFS.out.ctl; have := HL20.out; omega) (by have := HLEse.out.words; have := HFS.out.words; have := HL20.out; omega) (by have := HLEse.out.spots; have := HFS.out.spots; have := HL20.out; omega)).mono ?_
        rintro e u2 ⟨rfl, hb⟩
        have HB := Lib.hid (below_two HB.out hb)
        have HG := Lib.hid (HG.out.below hb)
        have HT5 := Lib.hid (HT5.out.below hb)
        have HR5 := Lib.hid (HR5.out.below hb)
        have HT6 := Lib.hid (HT6.out.below hb)
        have HR6 := Lib.hid (HR6.out.below hb)
        clear hb
        go_wp2_with (first | (refine wp_take rfl ?_; refine wp_loadS rfl 28 _ rfl v5.heap.size rfl 28 (stL q5 sp) _ HT5.out Tryd.underlying28 rfl 15 infoSt rfl ?_) | (refine wp_take rfl ?_; refine wp_loadS rfl 28 _ rfl v6.heap.size rfl 28 (stL q6 sp) _ HT6.out Tryd.underlying28 rfl 15 infoSt rfl ?_))
        refine (Same_any q5 q6 sp u2 HR5.out HR6.out (by have := HLEsp.out.data; have := HFS.out.data; have := HL20.out; omega) (by have := HLEsp.out.ret; have := HFS.out.ret; have := HL20.out; omega) (by have := HLEsp.out.ctl; have := HFS.out.ctl; have := HL20.out; omega) (by have := HLEsp.out.words; have := HFS.out.words; have := HL20.out; omega) (by have := HLEsp.out.spots; have := HFS.out.spots; have := HL20.out; omega)).mono ?_
        rintro e u3 ⟨rfl, hb⟩
        have HB := Lib.hid (below_two HB.out hb)
        have HG := Lib.hid (HG.out.below hb)
        clear hb
        have c0 : u3.cell? ⟨w.heap.size, 0, none⟩ = some (.slice q.m s.mem.length q.mc) := HG.out.cell 0
        have v0 := conv_rd (P := Tryd.prog) Tryd.underlying22 Tryd.underlying5 Tryd.underlying9 (HP.out.below HB.out).mem
        go_wp2
        go_ret
        exact ⟨rfl, HB.out⟩
end Go.Proofs.YtiliddklaklekaaDoor

