
/- The walk of FlowRuns. -/
import Derived.Test.YtfkkmlgblhnkaaaDoorLaws11
namespace Go.Proofs.YtfkkmlgblhnkaaaDoor
open Go.RowKit

theorem Lies.and2 {q : Ad} {s : Ps} {S T : Nat → Prop} (h : Lies q s S) (g : Lies q s T) : Lies q s (fun b => S b ∧ T b) :=
  ⟨fun a b c => ⟨h.mem a b c, g.mem a b c⟩, fun a b c => ⟨h.data a b c, g.data a b c⟩, fun a b c => ⟨h.ret a b c, g.ret a b c⟩, fun a b c => ⟨h.ctl a b c, g.ctl a b c⟩, fun a b c => ⟨h.words a b c, g.words a b c⟩, fun a b c => ⟨h.spots a b c, g.spots a b c⟩, fun a b c => ⟨h.out a b c, g.out a b c⟩⟩

set_option maxRecDepth 100000 in
set_option maxHeartbeats 8000000 in
theorem FlowRuns_walk (q : Ad) (s : Ps) (A : Option Addr) (c : Nat) (l : List Int) (w : World) (hp : RdP w q s) (hx : RdI w .u8 A c l) (hb : isB l) (ht : Tab w) :
    Calls Tryd.prog 4 #[stV q s, .slice A l.length c] w fun e w' => e = .returned (.bool true) ∧ Below w.heap.size w w' := by
  have HP := Lib.hid hp
  have HT := Lib.hid ht
  have HX := Lib.hid hx
  have HLB := Lib.hid hb
  have HB0 := Lib.hid (below_lit w (.cells (stL q s).toArray 28))
  have HG0 : Hid (Bx (w.alloc (.cells (stL q s).toArray 28)) w.heap.size 28 (stL q s)) := Lib.hid (Bx.new w _ _ _ _ rfl rfl)
  clear hp ht hx hb
  rw [stV_eq q s]
  go_enter Tryd.func4, Tryd.ntmps4
  go_wp2_with fail
  refine (awake_any _ (HT.out.below HB0.out)).mono ?_
  rintro e w1 ⟨rfl, hb⟩
  have HB := Lib.hid (below_two HB0.out hb)
  have HG := Lib.hid (HG0.out.below hb)
  clear hb HB0 HG0
  go_wp2_with (refine wp_loadS rfl 28 _ rfl w.heap.size rfl 28 (stL q s) _ HG.out Tryd.underlying28 rfl 15 infoSt rfl ?_)
  refine (Few_any q s w1 (HP.out.below HB.out)).mono ?_
  rintro e w2 ⟨⟨b, rfl, hf⟩, hb⟩
  have HF := Lib.hid hf
  have HB := Lib.hid (below_two HB.out hb)
  have HG := Lib.hid (HG.out.below hb)
  clear hb hf
  cases b with
  | false =>
    go_wp2
    go_ret
    exact ⟨rfl, HB.out⟩
  | true =>
    by_cases h20 : 20 < l.length
    · go_wp2
      go_ret
      exact ⟨rfl, HB.out⟩
    · have hfs := HF.out rfl
      have HFS := Lib.hid hfs
      clear hfs HF
      obtain ⟨n, hn⟩ : ∃ n, l.length = n := ⟨_, rfl⟩
      rw [hn] at h20 ⊢
      have HN := Lib.hid hn
      clear hn
      obtain ⟨G, hG⟩ : ∃ G, w.heap.size = G := ⟨_, rfl⟩
      have HGW := Lib.hid hG
      have HPG : Hid (Lies q s (fun b => b < G)) := Lib.hid (by rw [← hG]; exact HP.out.lies)
      have HLT : Hid (G < w2.heap.size) := Lib.hid (by rw [← hG]; exact HG.out.lt)
      have HGG : Hid (Bx w2 G 28 (stL q s)) := Lib.hid (by rw [← hG]; exact HG.out)
      rw [hG]
      clear hG HG
      have HZ0 : Hid (Bx (w2.alloc (.cells (stL nilA zeroP).toArray 28)) w2.heap.size 28 (stL nilA zeroP)) := Lib.hid (Bx.new _ _ _ _ _ rfl rfl)
      have HBZ := Lib.hid (below_lit w2 (.cells (stL nilA zeroP).toArray 28))
      go_wp2_with (first
        | (refine wp_loadS rfl 28 _ rfl G rfl 28 (stL q s) _ HGG.out Tryd.underlying28 rfl 15 infoSt rfl ?_)
        | (refine wp_storeS rfl 28 _ _ rfl w2.heap.size (stL q s) rfl rfl 28 _ HZ0.out 15 infoSt rfl rfl rfl ?_))
      intro W hgx hwx
      obtain ⟨GX, hGX⟩ : ∃ GX, w2.heap.size = GX := ⟨_, rfl⟩
      have hbl : Below w2.heap.size w2 W := below_grown HBZ.out HBZ.out.size hwx (Nat.le_refl _)
      have HBW : Hid (Below w.heap.size w W) := Lib.hid (below_two HB.out hbl)
      have HGW2 : Hid (Bx W G 28 (stL q s)) := Lib.hid (HGG.out.below hbl)
      have HGX : Hid (Bx W GX 28 (stL q s)) := Lib.hid (by rw [← hGX]; exact hgx)
      have HPW : Hid (RdP W q s) := Lib.hid (HP.out.below HBW.out)
      have HLW : Hid (Lies q s (fun b => b ≠ G ∧ b ≠ GX)) := Lib.hid (HPG.out.mono (fun b hb => by have := HLT.out; omega))
      have HNE : Hid (G ≠ GX ∧ w.heap.size ≤ G ∧ w.heap.size ≤ GX) := Lib.hid ⟨by have := HLT.out; omega, Nat.le_of_eq HGW.out, by have := HB.out.size; omega⟩
      have HLE0 : Hid (LeD s s (6 * 0)) := Lib.hid (LeD.refl s 0)
      rw [hGX]
      clear hbl hgx hwx HZ0 HBZ hGX
      go_wp2_with fail
      go_loopw [7] (fun y wr => ∃ (j : Nat) (qa qb : Ad) (t : Ps), y = .int .i64 j ∧ j ≤ n ∧ Hid (LeD t s (6 * j)) ∧ Hid (Bx wr G 28 (stL qa t)) ∧ Hid (Bx wr GX 28 (stL qb t)) ∧ Hid (RdP wr qa t) ∧ Hid (RdP wr qb t) ∧ Hid (Lies qa t (fun b => b ≠ G ∧ b ≠ GX)) ∧ Hid (Lies qb t (fun b => b ≠ G ∧ b ≠ GX)) ∧ Hid (Below w.heap.size w wr)) (fun y _ => n - (intOf y).toNat)
      case atStart => exact ⟨0, q, q, s, rfl, by omega, HLE0, HGW2, HGX, HPW, HPW, HLW, HLW, HBW⟩
      case round =>
        obtain ⟨j, qa, qb, t, rfl, hj, HLE, HGa, HGb, HRa, HRb, HLa, HLb, HBr⟩ := hrel
        by_cases hlt : j < n
        · obtain ⟨ad, rfl, hcx⟩ := RdI.at_ (HX.out.below HBr.out) (show j < l.length by rw [HN.out]; exact hlt)
          have hxb := isB_getD HLB.out j
          obtain ⟨x, hxk⟩ : ∃ x, l.getD j 0 = x := ⟨_, rfl⟩
          rw [hxk] at hcx hxb
          clear hxk
          obtain ⟨r, hr, hr0, hr1⟩ : ∃ r : Int, x.tmod 12 = r ∧ 0 ≤ r ∧ r < 12 := ⟨_, rfl, by rw [Int.tmod_eq_emod_of_nonneg hxb.1]; omega, by rw [Int.tmod_eq_emod_of_nonneg hxb.1]; omega⟩
          obtain ⟨s1, e1, b1, hd⟩ : ∃ a b c, doF t (98 + r) = (a, b, c) := ⟨_, _, _, rfl⟩
          have HD := Lib.hid hd
          have HLD : Hid (LeD s1 t 6) := Lib.hid (by have h := LeD.do_ t (98 + r); rw [hd] at h; exact h)
          have HSZ : Hid (Sz t 100000) := Lib.hid ⟨by have := HLE.out.mem; have := HFS.out.mem; omega, by have := HLE.out.spots; have := HFS.out.spots; omega, by have := HLE.out.ctl; have := HFS.out.ctl; omega⟩
          have HWL : Hid (t.words.length ≤ 1000000) := Lib.hid (by have := HLE.out.words; have := HFS.out.words; omega)
          clear hd
          go_wp2_with (refine wp_loadS rfl 28 _ rfl G rfl 28 (stL qa t) _ (HGa.out) Tryd.underlying28 rfl 15 infoSt rfl ?_)
          refine (DoF_any (98 + r) qa t s1 e1 b1 wr HD.out HRa.out HSZ.out HWL.out (HT.out.below HBr.out)).mono ?_
          rintro e v1 ⟨q1, rfl, hres, hb⟩
          have HR1 := Lib.hid hres.rd
          have HL1 : Hid (Lies q1 s1 (fun b => b ≠ G ∧ b ≠ GX)) := Lib.hid ((hres.lies _ HLa.out).mono (fun b hb => hb.elim id (fun h => by have := HGa.out.lt; have := HGb.out.lt; omega)))
          have HB1 := Lib.hid hb
          clear hres hb hcx
          rw [stV_eq q1 s1]
          obtain ⟨W1, hW⟩ : ∃ W, v1.alloc (.cells #[.slice q1.m s1.mem.length q1.mc, .slice q1.d s1.data.length q1.dc, .slice q1.r s1.ret.length q1.rc, .slice q1.c s1.ctl.length q1.cc, .slice q1.w s1.words.length q1.wc, .slice q1.s s1.spots.length q1.sc, .slice q1.o s1.out.length q1.oc, .int .i64 s1.ip, .int .i64 s1.here, .int .i64 s1.pos, .int .i64 s1.tok, .int .i64 s1.inp, .int .i64 s1.err, .bool s1.comp, .bool s1.halt] 28) = W := ⟨_, rfl⟩
          have hbl : Below v1.heap.size v1 W1 := by rw [← hW]; exact below_lit _ _
          have HB1 := Lib.hid (below_two HB1.out hbl)
          have HR1 := Lib.hid (HR1.out.below hbl)
          have HT1 : Hid (Bx W1 v1.heap.size 28 (stL q1 s1)) := Lib.hid (by rw [← hW]; exact Bx.new _ _ _ _ _ rfl rfl)
          have HWW := Lib.hid hW
          clear hbl hW
          go_wp2_with (refine wp_loadS rfl 28 _ rfl GX rfl 28 (stL qb t) _ (by rw [HWW.out]; exact HGb.out.below HB1.out) Tryd.underlying28 rfl 15 infoSt rfl ?_)
          rw [HWW.out]
          refine (RDoF_any (98 + r) qb t s1 e1 b1 W1 HD.out (HRb.out.below HB1.out) HSZ.out HWL.out).mono ?_
          rintro e v2 ⟨q2, rfl, hres, hb⟩
          have HB2 := Lib.hid (below_two HB1.out hb)
          have HV2 : Hid (G < v2.heap.size) := Lib.hid (Nat.lt_of_lt_of_le HGa.out.lt HB2.out.size)
          have HT1 := Lib.hid (HT1.out.below hb)
          have HR1 := Lib.hid (HR1.out.below hb)
          have HR2 := Lib.hid hres.rd
          have HL2 : Hid (Lies q2 s1 (fun b => b ≠ G ∧ b ≠ GX)) := Lib.hid ((hres.lies _ HLb.out).mono (fun b hb => hb.elim id (fun h => by have := HGa.out.lt; have := HGb.out.lt; have := HB1.out.size; omega)))
          clear hres hb HWW
          rw [stV_eq q2 s1]
          obtain ⟨W2, hW⟩ : ∃ W, v2.alloc (.cells #[.slice q2.m s1.mem.length q2.mc, .slice q2.d s1.data.length q2.dc, .slice q2.r s1.ret.length q2.rc, .slice q2.c s1.ctl.length q2.cc, .slice q2.w s1.words.length q2.wc, .slice q2.s s1.spots.length q2.sc, .slice q2.o s1.out.length q2.oc, .int .i64 s1.ip, .int .i64 s1.here, .int .i64 s1.pos, .int .i64 s1.tok, .int .i64 s1.inp, .int .i64 s1.err, .bool s1.comp, .bool s1.halt] 28) = W := ⟨_, rfl⟩
          have hbl : Below v2.heap.size v2 W2 := by rw [← hW]; exact below_lit _ _
          have HB2 := Lib.hid (below_two HB2.out hbl)
          have HT1 := Lib.hid (HT1.out.below hbl)
          have HR1 := Lib.hid (HR1.out.below hbl)
          have HR2 := Lib.hid (HR2.out.below hbl)
          have HT2 : Hid (Bx W2 v2.heap.size 28 (stL q2 s1)) := Lib.hid (by rw [← hW]; exact Bx.new _ _ _ _ _ rfl rfl)
          have HWW := Lib.hid hW
          clear hbl hW
          go_wp2_with (first
            | (refine wp_take rfl ?_; refine wp_loadS rfl 28 _ rfl v1.heap.size rfl 28 (stL q1 s1) _ (by rw [HWW.out]; exact HT1.out) Tryd.underlying28 rfl 15 infoSt rfl ?_)
            | (refine wp_take rfl ?_; refine wp_loadS rfl 28 _ rfl v2.heap.size rfl 28 (stL q2 s1) _ (by rw [HWW.out]; exact HT2.out) Tryd.underlying28 rfl 15 infoSt rfl ?_))
          rw [HWW.out]
          refine (Same_any q1 q2 s1 W2 HR1.out HR2.out (by have := HLD.out.data; have := HLE.out.data; have := HFS.out.data; omega) (by have := HLD.out.ret; have := HLE.out.ret; have := HFS.out.ret; omega) (by have := HLD.out.ctl; have := HLE.out.ctl; have := HFS.out.ctl; omega) (by have := HLD.out.words; have := HLE.out.words; have := HFS.out.words; omega) (by have := HLD.out.spots; have := HLE.out.spots; have := HFS.out.spots; omega)).mono ?_
          rintro e u3 ⟨rfl, hb⟩
          have HB3 := Lib.hid (below_two HB2.out hb)
          have HT1 := Lib.hid (HT1.out.below hb)
          have HT2 := Lib.hid (HT2.out.below hb)
          have HR1 := Lib.hid (HR1.out.below hb)
          have HR2 := Lib.hid (HR2.out.below hb)
          have HGa3 := Lib.hid (HGa.out.below HB3.out)
          have HGb3 := Lib.hid (HGb.out.below HB3.out)
          have HBr3 := Lib.hid (below_two HBr.out HB3.out)
          clear hb HWW
          by_cases he : e1 = 0
          · subst he
            go_wp2_with (first
              | (refine wp_loadS rfl 28 _ rfl v1.heap.size rfl 28 (stL q1 s1) _ HT1.out Tryd.underlying28 rfl 15 infoSt rfl ?_)
              | (refine wp_storeS rfl 28 _ _ rfl G (stL q1 s1) rfl rfl 28 _ HGa3.out 15 infoSt rfl rfl rfl ?_))
            intro w6 hg6 hw6
            have HGa6 := Lib.hid hg6
            have HR16 := Lib.hid (HR1.out.grown HL1.out hw6 (fun h => h.1 rfl))
            have HR26 := Lib.hid (HR2.out.grown HL2.out hw6 (fun h => h.1 rfl))
            have HGb6 := Lib.hid (HGb3.out.grown hw6 (fun e => HNE.out.1 e.symm))
            have HT26 := Lib.hid (HT2.out.grown hw6 (fun e => by have := HV2.out; omega))
            have HBr6 := Lib.hid (below_grown HBr3.out HBr3.out.size hw6 HNE.out.2.1)
            clear hg6 hw6
            go_wp2_with (first
              | (refine wp_loadS rfl 28 _ rfl v2.heap.size rfl 28 (stL q2 s1) _ HT26.out Tryd.underlying28 rfl 15 infoSt rfl ?_)
              | (refine wp_storeS rfl 28 _ _ rfl GX (stL q2 s1) rfl rfl 28 _ HGb6.out 15 infoSt rfl rfl rfl ?_))
            intro w7 hg7 hw7
            have HGb7 := Lib.hid hg7
            have HR17 := Lib.hid (HR16.out.grown HL1.out hw7 (fun h => h.2 rfl))
            have HR27 := Lib.hid (HR26.out.grown HL2.out hw7 (fun h => h.2 rfl))
            have HGa7 := Lib.hid (HGa6.out.grown hw7 HNE.out.1)
            have HBr7 := Lib.hid (below_grown HBr6.out HBr6.out.size hw7 HNE.out.2.2)
            have HLE7 : Hid (LeD s1 s (6 * (j + 1))) := Lib.hid ((HLE.out.trans HLD.out).mono (by omega))
            clear hg7 hw7
            go_wp2
            go_roundw
            case rel => exact ⟨j + 1, q1, q2, s1, by go_num, by omega, HLE7, HGa7, HGb7, HR17, HR27, HL1, HL2, HBr7⟩
            case measure => simp [intOf] <;> omega
          · have HRa3 := Lib.hid (HRa.out.below HB3.out)
            have HRb3 := Lib.hid (HRb.out.below HB3.out)
            have HLE7 : Hid (LeD t s (6 * (j + 1))) := Lib.hid (HLE.out.mono (by omega))
            go_wp2
            go_roundw
            case rel => exact ⟨j + 1, qa, qb, t, by go_num, by omega, HLE7, HGa3, HGb3, HRa3, HRb3, HLa, HLb, HBr3⟩
            case measure => simp [intOf] <;> omega
        · have hjn : j = n := by omega
          subst hjn
          go_wp2_with (first
            | (refine wp_take rfl ?_; refine wp_loadS rfl 28 _ rfl G rfl 28 (stL qa t) _ HGa.out Tryd.underlying28 rfl 15 infoSt rfl ?_)
            | (refine wp_take rfl ?_; refine wp_loadS rfl 28 _ rfl GX rfl 28 (stL qb t) _ HGb.out Tryd.underlying28 rfl 15 infoSt rfl ?_))
          refine (Same_any qa qb t wr HRa.out HRb.out (by have := HLE.out.data; have := HFS.out.data; omega) (by have := HLE.out.ret; have := HFS.out.ret; omega) (by have := HLE.out.ctl; have := HFS.out.ctl; omega) (by have := HLE.out.words; have := HFS.out.words; omega) (by have := HLE.out.spots; have := HFS.out.spots; omega)).mono ?_
          rintro e u3 ⟨rfl, hb⟩
          have HB3 := Lib.hid (below_two HBr.out hb)
          clear hb
          go_wp2
          go_ret
          exact ⟨rfl, HB3.out⟩
end Go.Proofs.YtfkkmlgblhnkaaaDoor
