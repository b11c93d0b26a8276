
/- nostosref10.Same (of two states that are), Few. -/
import Derived.Test.YtfkkmlgblhnkaaaDoorSame10
namespace Go.Proofs.YtfkkmlgblhnkaaaDoor
open Go.RowKit

set_option maxHeartbeats 2000000 in
theorem Same_any (q1 q2 : Ad) (s : Ps) (w : World) (h1 : RdP w q1 s) (h2 : RdP w q2 s) (hd : s.data.length ≤ 140737488355328) (hr : s.ret.length ≤ 140737488355328) (hc : s.ctl.length ≤ 140737488355328) (hw : s.words.length ≤ 140737488355328) (hsp : s.spots.length ≤ 140737488355328) :
    Calls Tryd.prog 12 #[stV q1 s, stV q2 s] w fun e w' => e = .returned (.bool true) ∧ Below w.heap.size w w' := by
  have HB0 := Lib.hid (below_two (below_lit w (.cells (stL q1 s).toArray 28)) (below_lit _ (.cells (stL q2 s).toArray 28)))
  have HP1 := Lib.hid h1
  have HP2 := Lib.hid h2
  have HG1 : Hid (Bx ((w.alloc (.cells (stL q1 s).toArray 28)).alloc (.cells (stL q2 s).toArray 28)) w.heap.size 28 (stL q1 s)) := Lib.hid ((Bx.new w _ _ _ _ rfl rfl).alloc _)
  have HG2 : Hid (Bx ((w.alloc (.cells (stL q1 s).toArray 28)).alloc (.cells (stL q2 s).toArray 28)) (w.heap.size + 1) 28 (stL q2 s)) := Lib.hid (Bx.new _ _ _ _ _ (by simp) rfl)
  clear h1 h2
  rw [stV_eq q1 s, stV_eq q2 s]
  go_enter Tryd.func12, Tryd.ntmps12
  go_wp2_with fail
  refine (ints_same q1.d q2.d q1.dc q2.dc _ s.data _ rfl (HP1.out.below HB0.out).data (HP2.out.below HB0.out).data hd).mono ?_
  rintro e w1 ⟨rfl, hb⟩
  have HB1 := Lib.hid (below_two HB0.out hb)
  have HG1 := Lib.hid (HG1.out.below hb)
  have HG2 := Lib.hid (HG2.out.below hb)
  clear hb HB0
  have c1 : w1.cell? ⟨w.heap.size, 2, none⟩ = some (.slice q1.r s.ret.length q1.rc) := HG1.out.cell 2
  have c2 : w1.cell? ⟨w.heap.size + 1, 2, none⟩ = some (.slice q2.r s.ret.length q2.rc) := HG2.out.cell 2
  go_wp2_with fail
  clear c1 c2
  refine (slots_same q1.r q2.r q1.rc q2.rc _ s.ret _ rfl (HP1.out.below HB1.out).ret (HP2.out.below HB1.out).ret hr).mono ?_
  rintro e w2 ⟨rfl, hb⟩
  have HB2 := Lib.hid (below_two HB1.out hb)
  have HG1 := Lib.hid (HG1.out.below hb)
  have HG2 := Lib.hid (HG2.out.below hb)
  clear hb HB1
  have c1 : w2.cell? ⟨w.heap.size, 3, none⟩ = some (.slice q1.c s.ctl.length q1.cc) := HG1.out.cell 3
  have c2 : w2.cell? ⟨w.heap.size + 1, 3, none⟩ = some (.slice q2.c s.ctl.length q2.cc) := HG2.out.cell 3
  go_wp2_with fail
  clear c1 c2
  refine (ints_same q1.c q2.c q1.cc q2.cc _ s.ctl _ rfl (HP1.out.below HB2.out).ctl (HP2.out.below HB2.out).ctl hc).mono ?_
  rintro e w3 ⟨rfl, hb⟩
  have HB3 := Lib.hid (below_two HB2.out hb)
  have HG1 := Lib.hid (HG1.out.below hb)
  have HG2 := Lib.hid (HG2.out.below hb)
  clear hb HB2
  have c1 : w3.cell? ⟨w.heap.size, 4, none⟩ = some (.slice q1.w s.words.length q1.wc) := HG1.out.cell 4
  have c2 : w3.cell? ⟨w.heap.size + 1, 4, none⟩ = some (.slice q2.w s.words.length q2.wc) := HG2.out.cell 4
  go_wp2_with fail
  clear c1 c2
  refine (words_same q1.w q2.w q1.wc q2.wc _ s.words _ rfl (HP1.out.below HB3.out).words (HP2.out.below HB3.out).words hw).mono ?_
  rintro e w4 ⟨rfl, hb⟩
  have HB4 := Lib.hid (below_two HB3.out hb)
  have HG1 := Lib.hid (HG1.out.below hb)
  have HG2 := Lib.hid (HG2.out.below hb)
  clear hb HB3
  have c1 : w4.cell? ⟨w.heap.size, 5, none⟩ = some (.slice q1.s s.spots.length q1.sc) := HG1.out.cell 5
  have c2 : w4.cell? ⟨w.heap.size + 1, 5, none⟩ = some (.slice q2.s s.spots.length q2.sc) := HG2.out.cell 5
  go_wp2_with fail
  clear c1 c2
  refine (spots_same q1.s q2.s q1.sc q2.sc _ s.spots _ rfl (HP1.out.below HB4.out).spots (HP2.out.below HB4.out).spots hsp).mono ?_
  rintro e w5 ⟨rfl, hb⟩
  have HB5 := Lib.hid (below_two HB4.out hb)
  have HG1 := Lib.hid (HG1.out.below hb)
  have HG2 := Lib.hid (HG2.out.below hb)
  clear hb HB4
  have c1 : w5.cell? ⟨w.heap.size, 0, none⟩ = some (.slice q1.m s.mem.length q1.mc) := HG1.out.cell 0
  have c2 : w5.cell? ⟨w.heap.size + 1, 0, none⟩ = some (.slice q2.m s.mem.length q2.mc) := HG2.out.cell 0
  have c3 : w5.cell? ⟨w.heap.size, 6, none⟩ = some (.slice q1.o s.out.length q1.oc) := HG1.out.cell 6
  have c4 : w5.cell? ⟨w.heap.size + 1, 6, none⟩ = some (.slice q2.o s.out.length q2.oc) := HG2.out.cell 6
  have v1 := conv_rd (P := Tryd.prog) Tryd.underlying22 Tryd.underlying5 Tryd.underlying9 (HP1.out.below HB5.out).mem
  have v2 := conv_rd (P := Tryd.prog) Tryd.underlying22 Tryd.underlying5 Tryd.underlying9 (HP2.out.below HB5.out).mem
  have v3 := conv_rd (P := Tryd.prog) Tryd.underlying22 Tryd.underlying5 Tryd.underlying9 (HP1.out.below HB5.out).out
  have v4 := conv_rd (P := Tryd.prog) Tryd.underlying22 Tryd.underlying5 Tryd.underlying9 (HP2.out.below HB5.out).out
  go_wp2
  go_ret
  exact ⟨rfl, HB5.out⟩

/-- What Few tells. -/
structure FewS (s : Ps) : Prop where
  mem : s.mem.length ≤ 600
  data : s.data.length ≤ 40
  ret : s.ret.length ≤ 40
  ctl : s.ctl.length ≤ 200
  words : s.words.length ≤ 40
  spots : s.spots.length ≤ 100
  out : s.out.length ≤ 200

def FewR (s : Ps) (e : Ending) : Prop := ∃ b, e = .returned (.bool b) ∧ (b = true → FewS s)

set_option maxHeartbeats 2000000 in
theorem Few_any (q : Ad) (s : Ps) (w : World) (hp : RdP w q s) :
    Calls Tryd.prog 9 #[stV q s] w fun e w' => FewR s e ∧ Below w.heap.size w w' := by
  have HB0 := Lib.hid (below_lit w (.cells (stL q s).toArray 28))
  have HP := Lib.hid (hp.below HB0.out)
  have hle := hp.words.le
  have hcm := hp.words.cap
  unfold maxLen at hcm
  obtain ⟨W, hW⟩ : ∃ W, w.alloc (.cells #[.slice q.m s.mem.length q.mc, .slice q.d s.data.length q.dc, .slice q.r s.ret.length q.rc, .slice q.c s.ctl.length q.cc, .slice q.w s.words.length q.wc, .slice q.s s.spots.length q.sc, .slice q.o s.out.length q.oc, .int .i64 s.ip, .int .i64 s.here, .int .i64 s.pos, .int .i64 s.tok, .int .i64 s.inp, .int .i64 s.err, .bool s.comp, .bool s.halt] 28) = W := ⟨_, rfl⟩
  have HG : Hid (Bx W w.heap.size 28 (stL q s)) := Lib.hid (by rw [← hW]; exact Bx.new w _ _ _ _ rfl rfl)
  have HB : Hid (Below w.heap.size w W) := Lib.hid (by rw [← hW]; exact HB0.out)
  have HPP : Hid (RdP W q s) := Lib.hid (by rw [← hW]; exact HP.out)
  have HWW := Lib.hid hW
  clear hp hW HP HB0
  rw [stV_eq q s]
  go_enter Tryd.func9, Tryd.ntmps9
  go_wp2_with fail
  rw [HWW.out]
  obtain ⟨n, hn⟩ : ∃ n, s.words.length = n := ⟨_, rfl⟩
  have HN := Lib.hid hn
  rw [hn] at hle
  clear hn
  obtain ⟨c0, c1, c2, c3, c4, c5, c6, _⟩ := HG.out.st15
  rw [HN.out] at c4
  go_loopw [3] (fun y wi => ∃ k : Nat, y = .int .i64 k ∧ k ≤ n ∧ wi = W) (fun y _ => n - (intOf y).toNat)
  case atStart => exact ⟨0, rfl, by omega, rfl⟩
  case round =>
    obtain ⟨k, rfl, hk, rfl⟩ := hrel
    by_cases hlt : k < n
    · by_cases h41 : k < 41
      · obtain ⟨ad, had, hc⟩ := RdE.all encW_len (by decide) HPP.out.words (by rw [HN.out]; omega)
        have c4' := c4
        rw [had] at c4'
        have e0 := hc.at0 (show k < s.words.length by rw [HN.out]; exact hlt) (v := .string (s.words[k]!).nm) rfl
        obtain ⟨y, hy⟩ : ∃ y, (s.words[k]!).nm = y := ⟨_, rfl⟩
        rw [hy] at e0
        clear hc hy c4 had
        by_cases h60 : 60 < y.size
        · go_wp2
          go_ret
          exact ⟨⟨_, rfl, fun h => absurd h Bool.false_ne_true⟩, HB.out⟩
        · go_wp2
          go_roundw
          case rel => exact ⟨k + 1, by go_num, by omega, by trivial⟩
          case measure => simp [intOf] <;> omega
      · have c4' := c4
        go_wp2
        all_goals
          go_ret
          refine ⟨⟨_, rfl, fun hb => ?_⟩, HB.out⟩
          first
            | exact absurd hb Bool.false_ne_true
            | exact ⟨by omega, by omega, by omega, by omega, by have := HN.out; omega, by omega, by omega⟩
            | (simp at hb; exact ⟨by omega, by omega, by omega, by omega, by have := HN.out; omega, by omega, by omega⟩)
    · have c4' := c4
      go_wp2
      all_goals
        go_ret
        refine ⟨⟨_, rfl, fun hb => ?_⟩, HB.out⟩
        first
          | exact absurd hb Bool.false_ne_true
          | exact ⟨by omega, by omega, by omega, by omega, by have := HN.out; omega, by omega, by omega⟩
          | (simp at hb; exact ⟨by omega, by omega, by omega, by omega, by have := HN.out; omega, by omega, by omega⟩)
end Go.Proofs.YtfkkmlgblhnkaaaDoor
