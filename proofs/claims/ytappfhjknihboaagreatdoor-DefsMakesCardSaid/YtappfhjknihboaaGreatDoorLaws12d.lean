
/- The walk of DefsMakes. -/
import Derived.Test.YtappfhjknihboaaGreatDoorLaws12
import Derived.Test.YtappfhjknihboaaGreatDoorPlainM12
import Derived.BigQuiet
namespace Go.Proofs.YtappfhjknihboaaGreatDoor
open Go.RowKit

theorem rup_quiet {at_ r : Int} {w : World} (h : upR at_ = r) (h0 : -9223372036854775808 ≤ at_) (h1 : at_ ≤ 9223372036854775807) (n : Nat) : Calls Tryz.prog 18 #[.int .i64 at_] (w.drewN n) fun e w'' => e = .returned (.int .i64 r) ∧ ∃ m, w'' = w.drewN m :=
  quiet_sw (RUp_any at_ r (w.drewN n) h h0 h1)
set_option maxRecDepth 100000 in
set_option maxHeartbeats 8000000 in
theorem DefsMakes0_walk (q : Ad) (s : Ps) (x : Sx) (n : Int) (hn : 0 ≤ n ∧ n < 256) (hrem : n.tmod 5 = 0) (w : World) (hp : RdP w q s) (hh : -9223372036854775808 ≤ s.here ∧ s.here ≤ 9223372036854775807) (ht : Tab w) :
    Calls Tryz.prog 5 #[stV q s, suV x, .int .u8 n] w fun e w' => e = .returned (.bool true) ∧ Below w.heap.size w w' := by
  have HN := Lib.hid hn
  have HP := Lib.hid hp
  have HT := Lib.hid ht
  have HH := Lib.hid hh
  have hB0 := below_two (below_lit w (.cells (stL q s).toArray 28)) (below_lit _ (.cells (suL x).toArray 30))
  have hS : Bx ((w.alloc (.cells (stL q s).toArray 28)).alloc (.cells (suL x).toArray 30)) w.heap.size 28 (stL q s) := (Bx.new w _ _ _ _ rfl rfl).alloc _
  have hX : Bx ((w.alloc (.cells (stL q s).toArray 28)).alloc (.cells (suL x).toArray 30)) (w.heap.size + 1) 30 (suL x) := Bx.new _ _ _ _ _ (by simp) rfl
  obtain ⟨W, hW⟩ : ∃ W, (w.alloc (.cells #[.slice q.m s.mem.length q.mc, .slice q.d s.data.length q.dc, .slice q.r s.ret.length q.rc, .slice q.c s.ctl.length q.cc, .slice q.w s.words.length q.wc, .slice q.s s.spots.length q.sc, .slice q.o s.out.length q.oc, .int .i64 s.ip, .int .i64 s.here, .int .i64 s.pos, .int .i64 s.tok, .int .i64 s.inp, .int .i64 s.err, .bool s.comp, .bool s.halt] 28)).alloc (.cells #[.string x.src, .slice x.iA x.iN x.iC, .int .i64 x.size, .int .i64 x.depth, .int .i64 x.room] 30) = W := ⟨_, rfl⟩
  have HB0 : Hid (Below w.heap.size w W) := Lib.hid (by rw [← hW]; exact hB0)
  have HG0 : Hid (Bx W w.heap.size 28 (stL q s)) := Lib.hid (by rw [← hW]; exact hS)
  have HX0 : Hid (Bx W (w.heap.size + 1) 30 (suL x)) := Lib.hid (by rw [← hW]; exact hX)
  have HWW := Lib.hid hW
  clear hp ht hh hB0 hS hX hW
  rw [stV_eq q s, suV_eq x]
  go_enter Tryz.func5, Tryz.ntmps5
  go_upto_region 1 with fail
  rw [HWW.out]
  go_wp2_with fail
  refine (awake_any _ (HT.out.below HB0.out)).mono ?_
  rintro e w1 ⟨rfl, hb⟩
  have HB := Lib.hid (below_two HB0.out hb)
  have HG := Lib.hid (HG0.out.below hb)
  have HX := Lib.hid (HX0.out.below hb)
  clear hb HB0 HG0 HX0 HWW
  go_wp2_with (first
    | (refine wp_loadS rfl 28 _ rfl w.heap.size rfl 28 (stL q s) _ HG.out Tryz.underlying28 rfl 15 infoSt rfl ?_)
    | (refine wp_loadS rfl 30 _ rfl (w.heap.size + 1) rfl 30 (suL x) _ HX.out Tryz.underlying30 rfl 5 infoSx rfl ?_))
  refine (Few12_any q s x w1 (HP.out.below HB.out)).mono ?_
  rintro e w2 ⟨⟨b, rfl, hf⟩, hb⟩
  have HF := Lib.hid hf
  have HB := Lib.hid (below_two HB.out hb)
  have HG := Lib.hid (HG.out.below hb)
  have HX := Lib.hid (HX.out.below hb)
  clear hb hf
  cases b with
  | false =>
    go_wp2
    go_ret
    exact ⟨rfl, HB.out⟩
  | true =>
    have hfs := HF.out rfl
    have HFS := Lib.hid hfs
    have HZ : Hid (SzD s) := Lib.hid ⟨by have := hfs.few.mem; omega, by have := hfs.few.data; omega, by have := hfs.few.spots; omega, by have := hfs.few.words; omega, by have := hfs.few.out; omega, fun y hy => by have := hfs.nms y hy; omega⟩
    clear hfs HF
    obtain ⟨s1, e1, b1, hd⟩ : ∃ a b c, doD x s 115 = (a, b, c) := ⟨_, _, _, rfl⟩
    have HD := Lib.hid hd
    have HLE : Hid (LeB s1 s 10) := Lib.hid (by have h := doD_le x s 115; rw [hd] at h; exact h)
    clear hd
    go_wp2_with fail
    refine (Find_any ⟨#[67, 82, 69, 65, 84, 69]⟩ 115 _ (by decide +kernel) (by decide) (HT.out.below HB.out)).mono ?_
    rintro e u0 ⟨rfl, hb⟩
    have HG := Lib.hid (HG.out.below hb)
    have HX := Lib.hid (HX.out.below hb)
    have HB := Lib.hid (below_two HB.out hb)
    clear hb
    go_wp2_with fail
    refine (Find_any ⟨#[86, 65, 82, 73, 65, 66, 76, 69]⟩ 114 _ (by decide +kernel) (by decide) (HT.out.below HB.out)).mono ?_
    rintro e u1 ⟨rfl, hb⟩
    have HG := Lib.hid (HG.out.below hb)
    have HX := Lib.hid (HX.out.below hb)
    have HB := Lib.hid (below_two HB.out hb)
    clear hb
    go_wp2_with fail
    refine (Find_any ⟨#[67, 79, 78, 83, 84, 65, 78, 84]⟩ 113 _ (by decide +kernel) (by decide) (HT.out.below HB.out)).mono ?_
    rintro e u2 ⟨rfl, hb⟩
    have HG := Lib.hid (HG.out.below hb)
    have HX := Lib.hid (HX.out.below hb)
    have HB := Lib.hid (below_two HB.out hb)
    clear hb
    go_wp2_with fail
    refine (Find_any ⟨#[77, 65, 82, 75, 69, 82]⟩ 117 _ (by decide +kernel) (by decide) (HT.out.below HB.out)).mono ?_
    rintro e u3 ⟨rfl, hb⟩
    have HG := Lib.hid (HG.out.below hb)
    have HX := Lib.hid (HX.out.below hb)
    have HB := Lib.hid (below_two HB.out hb)
    clear hb
    go_wp2_with fail
    refine (Find_any ⟨#[58]⟩ 110 _ (by decide +kernel) (by decide) (HT.out.below HB.out)).mono ?_
    rintro e u4 ⟨rfl, hb⟩
    have HG := Lib.hid (HG.out.below hb)
    have HX := Lib.hid (HX.out.below hb)
    have HB := Lib.hid (below_two HB.out hb)
    clear hb
    have HBA := Lib.hid (below_lit u4 (.cells #[.int .i64 115, .int .i64 114, .int .i64 113, .int .i64 117, .int .i64 110] 3))
    have HG := Lib.hid (HG.out.below HBA.out)
    have HX := Lib.hid (HX.out.below HBA.out)
    have HB := Lib.hid (below_two HB.out HBA.out)
    have HRR : Hid (RdI (u4.alloc (.cells #[.int .i64 115, .int .i64 114, .int .i64 113, .int .i64 117, .int .i64 110] 3)) .i64 (some ⟨u4.heap.size, 0, none⟩) 5 [115, 114, 113, 117, 110]) := Lib.hid (rd_alloc u4 [.int .i64 115, .int .i64 114, .int .i64 113, .int .i64 117, .int .i64 110] #[.int .i64 115, .int .i64 114, .int .i64 113, .int .i64 117, .int .i64 110] 3 (0, 0) 5 5 1 rfl rfl (by decide) (by decide))
    go_wp2_with (first
      | (refine wp_loadS rfl 28 _ rfl w.heap.size rfl 28 (stL q s) _ HG.out Tryz.underlying28 rfl 15 infoSt rfl ?_)
      | (refine wp_loadS rfl 30 _ rfl (w.heap.size + 1) rfl 30 (suL x) _ HX.out Tryz.underlying30 rfl 5 infoSx rfl ?_))
    refine (DoD_any 115 q s x s1 e1 b1 _ HD.out (HP.out.below HB.out) HFS.out.src HZ.out (HT.out.below HB.out)).mono ?_
    rintro e v1 ⟨q1, rfl, hr, hb⟩
    have HB := Lib.hid (below_two HB.out hb)
    have HG := Lib.hid (HG.out.below hb)
    have HX := Lib.hid (HX.out.below hb)
    have HR1 := Lib.hid hr.rd
    clear hr hb HBA HRR
    have HBL := Lib.hid (below_lit v1 (.cells (stL nilA zeroP).toArray 28))
    have HBN : Hid (Bx (v1.alloc (.cells (stL nilA zeroP).toArray 28)) v1.heap.size 28 (stL nilA zeroP)) := Lib.hid (Bx.new v1 _ _ _ _ rfl rfl)
    go_wp2_with (refine wp_storeS rfl 28 _ _ rfl v1.heap.size (stL q1 s1) rfl rfl 28 (stL nilA zeroP) HBN.out 15 infoSt rfl rfl (stL_one _ _) ?_)
    intro wv1 hg5 hw5
    have HNv1 : Hid (Below v1.heap.size v1 wv1) := Lib.hid (below_grown HBL.out HBL.out.size hw5 (Nat.le_refl _))
    obtain ⟨g1, hg⟩ : ∃ g, v1.heap.size = g := ⟨_, rfl⟩
    have Hg1 : Hid (Bx wv1 g1 28 (stL q1 s1)) := Lib.hid (by rw [← hg]; exact hg5)
    rw [hg]
    have HG := Lib.hid (HG.out.below HNv1.out)
    have HX := Lib.hid (HX.out.below HNv1.out)
    have HR1 := Lib.hid (HR1.out.below HNv1.out)
    have HB := Lib.hid (below_two HB.out HNv1.out)
    clear hg5 hw5 hg HBL HBN HNv1
    by_cases he : e1 = 0
    · subst he
      obtain ⟨s1w, s1c, s1o, s1m⟩ := made_115 HD.out
      obtain ⟨K, hK⟩ : ∃ K, s.words.length = K := ⟨_, rfl⟩
      obtain ⟨up, hup⟩ : ∃ u, upR s.here = u := ⟨_, rfl⟩
      obtain ⟨nm, hnm⟩ : ∃ n, foldB (tokS x s) = n := ⟨_, rfl⟩
      have hy : madeW x s false = ⟨nm, up, false, false⟩ := by unfold madeW; rw [hup, hnm]
      have hKb : K ≤ 40 := by rw [← hK]; exact HFS.out.few.words
      have hnmb : nm.size ≤ 200 := by rw [← hnm, foldB_size]; exact tok_size x s HFS.out.src
      rw [hy] at s1w
      have hl1 : s1.words.length = K + 1 := by rw [s1w, List.length_append, hK]; rfl
      have HZ1 : Hid (SzD s1) := Lib.hid ⟨(by rw [s1m]; have := HFS.out.few.mem; omega), by have := HLE.out.data; have := HFS.out.few.data; omega, by have := HLE.out.spots; have := HFS.out.few.spots; omega, by omega, by rw [s1o]; have := HFS.out.few.out; omega, fun y hy2 => by
        rw [s1w] at hy2
        rcases List.mem_append.1 hy2 with h | h
        · have := HFS.out.nms y h; omega
        · simp only [List.mem_singleton] at h; rw [h]; show nm.size ≤ _; omega⟩
      have w4 : wv1.cell? ⟨w.heap.size, 4, none⟩ = some (.slice q.w K q.wc) := by have h := HG.out.cell 4; rw [← hK]; exact h
      have w8 : wv1.cell? ⟨w.heap.size, 8, none⟩ = some (.int .i64 s.here) := HG.out.cell 8
      obtain ⟨ad, hA, hcw⟩ := RdE.all encW_len (by decide) HR1.out.words (by omega)
      have v4 : wv1.cell? ⟨g1, 4, none⟩ = some (.slice (some ad) (K + 1) q1.wc) := by have h := Hg1.out.cell 4; rw [← hl1, ← hA]; exact h
      have hlast : s1.words[K]! = ⟨nm, up, false, false⟩ := by rw [s1w, ← hK, getD_snoc]
      have n0 := hcw.at0 (show K < s1.words.length by omega) (v := .string nm) (by rw [hlast]; rfl)
      have n1 := hcw.at' (show K < s1.words.length by omega) 1 (by decide) (v := .int .i64 up) (by rw [hlast]; rfl)
      have n2 := hcw.at' (show K < s1.words.length by omega) 2 (by decide) (v := .bool false) (by rw [hlast]; rfl)
      have n3 := hcw.at' (show K < s1.words.length by omega) 3 (by decide) (v := .bool false) (by rw [hlast]; rfl)
      have hwk : IntKind.i64.wrap ((K : Int) + 1) = (K : Int) + 1 := IntWalk.i64_in _ (by omega)
      have hk0 : (0 : Int) ≤ K := by omega
      have hk1 : (K : Int) < (K : Int) + 1 := by omega
      have HK := Lib.hid hK
      have HUP := Lib.hid hup
      have HS1W := Lib.hid s1w
      have HS1C := Lib.hid s1c
      have HL1 := Lib.hid hl1
      clear hK hup hnm hy s1w s1c hl1 hA hcw hlast
      have HNB := Lib.hid hnmb
      have UP : ∀ m, Calls Tryz.prog 18 #[.int .i64 s.here] (wv1.drewN m) fun e w'' => e = .returned (.int .i64 up) ∧ ∃ k, w'' = wv1.drewN k := fun m => rup_quiet HUP.out HH.out.1 HH.out.2 m
      go_upto_region 9 with fail
      go_quiet (exact UP _)
      have n0d := n0
      go_upto_region 13 with fail
      have HG := Lib.hid (HG.out.below (below_drewN wv1 nq))
      have HX := Lib.hid (HX.out.below (below_drewN wv1 nq))
      have HR1 := Lib.hid (HR1.out.below (below_drewN wv1 nq))
      have Hg1 := Lib.hid (Hg1.out.below (below_drewN wv1 nq))
      have HB := Lib.hid (below_two HB.out (below_drewN wv1 nq))
      clear v4 w4 w8 n0 n1 n2 n3
      obtain ⟨nw, hnw⟩ : ∃ v, foundN s1 nm = v := ⟨_, rfl⟩
      have HNW := Lib.hid hnw
      clear hnw
      go_wp2_with (refine wp_take rfl ?_; refine wp_loadS rfl 28 _ rfl g1 rfl 28 (stL q1 s1) _ Hg1.out Tryz.underlying28 rfl 15 infoSt rfl ?_)
      refine (Found_any q1 s1 nm up nw true (wv1.drewN nq) (found_new HS1W.out rfl rfl).1 HNW.out (found_new HS1W.out rfl rfl).2 HR1.out (by have := HZ1.out.words; omega) HZ1.out.nms (by have := HNB.out; omega) (HT.out.below HB.out)).mono ?_
      rintro e v2 ⟨rfl, hb⟩
      have HR1 := Lib.hid (HR1.out.below (hb))
      have Hg1 := Lib.hid (Hg1.out.below (hb))
      have HB := Lib.hid (below_two HB.out (hb))
      clear hb
      obtain ⟨ad, hA, hcw⟩ := RdE.all encW_len (by decide) HR1.out.words (by rw [HL1.out]; omega)
      have v4 : v2.cell? ⟨g1, 4, none⟩ = some (.slice (some ad) (K + 1) q1.wc) := by have h := Hg1.out.cell 4; rw [← HL1.out, ← hA]; exact h
      have hlast : s1.words[K]! = ⟨nm, up, false, false⟩ := by rw [HS1W.out, ← HK.out, getD_snoc]
      have n1 := hcw.at' (show K < s1.words.length by rw [HL1.out]; omega) 1 (by decide) (v := .int .i64 up) (by rw [hlast]; rfl)
      have n3 := hcw.at' (show K < s1.words.length by rw [HL1.out]; omega) 3 (by decide) (v := .bool false) (by rw [hlast]; rfl)
      clear hA hcw hlast
      go_wp2
      go_ret
      exact ⟨rfl, HB.out⟩
    · go_wp2
      go_ret
      exact ⟨rfl, HB.out⟩
set_option maxRecDepth 100000 in
set_option maxHeartbeats 8000000 in
theorem DefsMakes1_walk (q : Ad) (s : Ps) (x : Sx) (n : Int) (hn : 0 ≤ n ∧ n < 256) (hrem : n.tmod 5 = 1) (w : World) (hp : RdP w q s) (hh : -9223372036854775808 ≤ s.here ∧ s.here ≤ 9223372036854775807) (ht : Tab w) :
    Calls Tryz.prog 5 #[stV q s, suV x, .int .u8 n] w fun e w' => e = .returned (.bool true) ∧ Below w.heap.size w w' := by
  have HN := Lib.hid hn
  have HP := Lib.hid hp
  have HT := Lib.hid ht
  have HH := Lib.hid hh
  have hB0 := below_two (below_lit w (.cells (stL q s).toArray 28)) (below_lit _ (.cells (suL x).toArray 30))
  have hS : Bx ((w.alloc (.cells (stL q s).toArray 28)).alloc (.cells (suL x).toArray 30)) w.heap.size 28 (stL q s) := (Bx.new w _ _ _ _ rfl rfl).alloc _
  have hX : Bx ((w.alloc (.cells (stL q s).toArray 28)).alloc (.cells (suL x).toArray 30)) (w.heap.size + 1) 30 (suL x) := Bx.new _ _ _ _ _ (by simp) rfl
  obtain ⟨W, hW⟩ : ∃ W, (w.alloc (.cells #[.slice q.m s.mem.length q.mc, .slice q.d s.data.length q.dc, .slice q.r s.ret.length q.rc, .slice q.c s.ctl.length q.cc, .slice q.w s.words.length q.wc, .slice q.s s.spots.length q.sc, .slice q.o s.out.length q.oc, .int .i64 s.ip, .int .i64 s.here, .int .i64 s.pos, .int .i64 s.tok, .int .i64 s.inp, .int .i64 s.err, .bool s.comp, .bool s.halt] 28)).alloc (.cells #[.string x.src, .slice x.iA x.iN x.iC, .int .i64 x.size, .int .i64 x.depth, .int .i64 x.room] 30) = W := ⟨_, rfl⟩
  have HB0 : Hid (Below w.heap.size w W) := Lib.hid (by rw [← hW]; exact hB0)
  have HG0 : Hid (Bx W w.heap.size 28 (stL q s)) := Lib.hid (by rw [← hW]; exact hS)
  have HX0 : Hid (Bx W (w.heap.size + 1) 30 (suL x)) := Lib.hid (by rw [← hW]; exact hX)
  have HWW := Lib.hid hW
  clear hp ht hh hB0 hS hX hW
  rw [stV_eq q s, suV_eq x]
  go_enter Tryz.func5, Tryz.ntmps5
  go_upto_region 1 with fail
  rw [HWW.out]
  go_wp2_with fail
  refine (awake_any _ (HT.out.below HB0.out)).mono ?_
  rintro e w1 ⟨rfl, hb⟩
  have HB := Lib.hid (below_two HB0.out hb)
  have HG := Lib.hid (HG0.out.below hb)
  have HX := Lib.hid (HX0.out.below hb)
  clear hb HB0 HG0 HX0 HWW
  go_wp2_with (first
    | (refine wp_loadS rfl 28 _ rfl w.heap.size rfl 28 (stL q s) _ HG.out Tryz.underlying28 rfl 15 infoSt rfl ?_)
    | (refine wp_loadS rfl 30 _ rfl (w.heap.size + 1) rfl 30 (suL x) _ HX.out Tryz.underlying30 rfl 5 infoSx rfl ?_))
  refine (Few12_any q s x w1 (HP.out.below HB.out)).mono ?_
  rintro e w2 ⟨⟨b, rfl, hf⟩, hb⟩
  have HF := Lib.hid hf
  have HB := Lib.hid (below_two HB.out hb)
  have HG := Lib.hid (HG.out.below hb)
  have HX := Lib.hid (HX.out.below hb)
  clear hb hf
  cases b with
  | false =>
    go_wp2
    go_ret
    exact ⟨rfl, HB.out⟩
  | true =>
    have hfs := HF.out rfl
    have HFS := Lib.hid hfs
    have HZ : Hid (SzD s) := Lib.hid ⟨by have := hfs.few.mem; omega, by have := hfs.few.data; omega, by have := hfs.few.spots; omega, by have := hfs.few.words; omega, by have := hfs.few.out; omega, fun y hy => by have := hfs.nms y hy; omega⟩
    clear hfs HF
    obtain ⟨s1, e1, b1, hd⟩ : ∃ a b c, doD x s 114 = (a, b, c) := ⟨_, _, _, rfl⟩
    have HD := Lib.hid hd
    have HLE : Hid (LeB s1 s 10) := Lib.hid (by have h := doD_le x s 114; rw [hd] at h; exact h)
    clear hd
    go_wp2_with fail
    refine (Find_any ⟨#[67, 82, 69, 65, 84, 69]⟩ 115 _ (by decide +kernel) (by decide) (HT.out.below HB.out)).mono ?_
    rintro e u0 ⟨rfl, hb⟩
    have HG := Lib.hid (HG.out.below hb)
    have HX := Lib.hid (HX.out.below hb)
    have HB := Lib.hid (below_two HB.out hb)
    clear hb
    go_wp2_with fail
    refine (Find_any ⟨#[86, 65, 82, 73, 65, 66, 76, 69]⟩ 114 _ (by decide +kernel) (by decide) (HT.out.below HB.out)).mono ?_
    rintro e u1 ⟨rfl, hb⟩
    have HG := Lib.hid (HG.out.below hb)
    have HX := Lib.hid (HX.out.below hb)
    have HB := Lib.hid (below_two HB.out hb)
    clear hb
    go_wp2_with fail
    refine (Find_any ⟨#[67, 79, 78, 83, 84, 65, 78, 84]⟩ 113 _ (by decide +kernel) (by decide) (HT.out.below HB.out)).mono ?_
    rintro e u2 ⟨rfl, hb⟩
    have HG := Lib.hid (HG.out.below hb)
    have HX := Lib.hid (HX.out.below hb)
    have HB := Lib.hid (below_two HB.out hb)
    clear hb
    go_wp2_with fail
    refine (Find_any ⟨#[77, 65, 82, 75, 69, 82]⟩ 117 _ (by decide +kernel) (by decide) (HT.out.below HB.out)).mono ?_
    rintro e u3 ⟨rfl, hb⟩
    have HG := Lib.hid (HG.out.below hb)
    have HX := Lib.hid (HX.out.below hb)
    have HB := Lib.hid (below_two HB.out hb)
    clear hb
    go_wp2_with fail
    refine (Find_any ⟨#[58]⟩ 110 _ (by decide +kernel) (by decide) (HT.out.below HB.out)).mono ?_
    rintro e u4 ⟨rfl, hb⟩
    have HG := Lib.hid (HG.out.below hb)
    have HX := Lib.hid (HX.out.below hb)
    have HB := Lib.hid (below_two HB.out hb)
    clear hb
    have HBA := Lib.hid (below_lit u4 (.cells #[.int .i64 115, .int .i64 114, .int .i64 113, .int .i64 117, .int .i64 110] 3))
    have HG := Lib.hid (HG.out.below HBA.out)
    have HX := Lib.hid (HX.out.below HBA.out)
    have HB := Lib.hid (below_two HB.out HBA.out)
    have HRR : Hid (RdI (u4.alloc (.cells #[.int .i64 115, .int .i64 114, .int .i64 113, .int .i64 117, .int .i64 110] 3)) .i64 (some ⟨u4.heap.size, 0, none⟩) 5 [115, 114, 113, 117, 110]) := Lib.hid (rd_alloc u4 [.int .i64 115, .int .i64 114, .int .i64 113, .int .i64 117, .int .i64 110] #[.int .i64 115, .int .i64 114, .int .i64 113, .int .i64 117, .int .i64 110] 3 (0, 0) 5 5 1 rfl rfl (by decide) (by decide))
    go_wp2_with (first
      | (refine wp_loadS rfl 28 _ rfl w.heap.size rfl 28 (stL q s) _ HG.out Tryz.underlying28 rfl 15 infoSt rfl ?_)
      | (refine wp_loadS rfl 30 _ rfl (w.heap.size + 1) rfl 30 (suL x) _ HX.out Tryz.underlying30 rfl 5 infoSx rfl ?_))
    refine (DoD_any 114 q s x s1 e1 b1 _ HD.out (HP.out.below HB.out) HFS.out.src HZ.out (HT.out.below HB.out)).mono ?_
    rintro e v1 ⟨q1, rfl, hr, hb⟩
    have HB := Lib.hid (below_two HB.out hb)
    have HG := Lib.hid (HG.out.below hb)
    have HX := Lib.hid (HX.out.below hb)
    have HR1 := Lib.hid hr.rd
    clear hr hb HBA HRR
    have HBL := Lib.hid (below_lit v1 (.cells (stL nilA zeroP).toArray 28))
    have HBN : Hid (Bx (v1.alloc (.cells (stL nilA zeroP).toArray 28)) v1.heap.size 28 (stL nilA zeroP)) := Lib.hid (Bx.new v1 _ _ _ _ rfl rfl)
    go_wp2_with (refine wp_storeS rfl 28 _ _ rfl v1.heap.size (stL q1 s1) rfl rfl 28 (stL nilA zeroP) HBN.out 15 infoSt rfl rfl (stL_one _ _) ?_)
    intro wv1 hg5 hw5
    have HNv1 : Hid (Below v1.heap.size v1 wv1) := Lib.hid (below_grown HBL.out HBL.out.size hw5 (Nat.le_refl _))
    obtain ⟨g1, hg⟩ : ∃ g, v1.heap.size = g := ⟨_, rfl⟩
    have Hg1 : Hid (Bx wv1 g1 28 (stL q1 s1)) := Lib.hid (by rw [← hg]; exact hg5)
    rw [hg]
    have HG := Lib.hid (HG.out.below HNv1.out)
    have HX := Lib.hid (HX.out.below HNv1.out)
    have HR1 := Lib.hid (HR1.out.below HNv1.out)
    have HB := Lib.hid (below_two HB.out HNv1.out)
    clear hg5 hw5 hg HBL HBN HNv1
    by_cases he : e1 = 0
    · subst he
      obtain ⟨s1w, s1c, s1o, s1m⟩ := made_114 HD.out
      obtain ⟨K, hK⟩ : ∃ K, s.words.length = K := ⟨_, rfl⟩
      obtain ⟨up, hup⟩ : ∃ u, upR s.here = u := ⟨_, rfl⟩
      obtain ⟨nm, hnm⟩ : ∃ n, foldB (tokS x s) = n := ⟨_, rfl⟩
      have hy : madeW x s false = ⟨nm, up, false, false⟩ := by unfold madeW; rw [hup, hnm]
      have hKb : K ≤ 40 := by rw [← hK]; exact HFS.out.few.words
      have hnmb : nm.size ≤ 200 := by rw [← hnm, foldB_size]; exact tok_size x s HFS.out.src
      rw [hy] at s1w
      have hl1 : s1.words.length = K + 1 := by rw [s1w, List.length_append, hK]; rfl
      have HZ1 : Hid (SzD s1) := Lib.hid ⟨(by rw [s1m]; have := HFS.out.few.mem; omega), by have := HLE.out.data; have := HFS.out.few.data; omega, by have := HLE.out.spots; have := HFS.out.few.spots; omega, by omega, by rw [s1o]; have := HFS.out.few.out; omega, fun y hy2 => by
        rw [s1w] at hy2
        rcases List.mem_append.1 hy2 with h | h
        · have := HFS.out.nms y h; omega
        · simp only [List.mem_singleton] at h; rw [h]; show nm.size ≤ _; omega⟩
      have w4 : wv1.cell? ⟨w.heap.size, 4, none⟩ = some (.slice q.w K q.wc) := by have h := HG.out.cell 4; rw [← hK]; exact h
      have w8 : wv1.cell? ⟨w.heap.size, 8, none⟩ = some (.int .i64 s.here) := HG.out.cell 8
      obtain ⟨ad, hA, hcw⟩ := RdE.all encW_len (by decide) HR1.out.words (by omega)
      have v4 : wv1.cell? ⟨g1, 4, none⟩ = some (.slice (some ad) (K + 1) q1.wc) := by have h := Hg1.out.cell 4; rw [← hl1, ← hA]; exact h
      have hlast : s1.words[K]! = ⟨nm, up, false, false⟩ := by rw [s1w, ← hK, getD_snoc]
      have n0 := hcw.at0 (show K < s1.words.length by omega) (v := .string nm) (by rw [hlast]; rfl)
      have n1 := hcw.at' (show K < s1.words.length by omega) 1 (by decide) (v := .int .i64 up) (by rw [hlast]; rfl)
      have n2 := hcw.at' (show K < s1.words.length by omega) 2 (by decide) (v := .bool false) (by rw [hlast]; rfl)
      have n3 := hcw.at' (show K < s1.words.length by omega) 3 (by decide) (v := .bool false) (by rw [hlast]; rfl)
      have hwk : IntKind.i64.wrap ((K : Int) + 1) = (K : Int) + 1 := IntWalk.i64_in _ (by omega)
      have hk0 : (0 : Int) ≤ K := by omega
      have hk1 : (K : Int) < (K : Int) + 1 := by omega
      have HK := Lib.hid hK
      have HUP := Lib.hid hup
      have HS1W := Lib.hid s1w
      have HS1C := Lib.hid s1c
      have HL1 := Lib.hid hl1
      clear hK hup hnm hy s1w s1c hl1 hA hcw hlast
      have HNB := Lib.hid hnmb
      have UP : ∀ m, Calls Tryz.prog 18 #[.int .i64 s.here] (wv1.drewN m) fun e w'' => e = .returned (.int .i64 up) ∧ ∃ k, w'' = wv1.drewN k := fun m => rup_quiet HUP.out HH.out.1 HH.out.2 m
      go_upto_region 9 with fail
      go_quiet (exact UP _)
      have n0d := n0
      go_upto_region 13 with fail
      have HG := Lib.hid (HG.out.below (below_drewN wv1 nq))
      have HX := Lib.hid (HX.out.below (below_drewN wv1 nq))
      have HR1 := Lib.hid (HR1.out.below (below_drewN wv1 nq))
      have Hg1 := Lib.hid (Hg1.out.below (below_drewN wv1 nq))
      have HB := Lib.hid (below_two HB.out (below_drewN wv1 nq))
      clear v4 w4 w8 n0 n1 n2 n3
      obtain ⟨nw, hnw⟩ : ∃ v, foundN s1 nm = v := ⟨_, rfl⟩
      have HNW := Lib.hid hnw
      clear hnw
      go_wp2_with (refine wp_take rfl ?_; refine wp_loadS rfl 28 _ rfl g1 rfl 28 (stL q1 s1) _ Hg1.out Tryz.underlying28 rfl 15 infoSt rfl ?_)
      refine (Found_any q1 s1 nm up nw true (wv1.drewN nq) (found_new HS1W.out rfl rfl).1 HNW.out (found_new HS1W.out rfl rfl).2 HR1.out (by have := HZ1.out.words; omega) HZ1.out.nms (by have := HNB.out; omega) (HT.out.below HB.out)).mono ?_
      rintro e v2 ⟨rfl, hb⟩
      have HR1 := Lib.hid (HR1.out.below (hb))
      have Hg1 := Lib.hid (Hg1.out.below (hb))
      have HB := Lib.hid (below_two HB.out (hb))
      clear hb
      obtain ⟨ad, hA, hcw⟩ := RdE.all encW_len (by decide) HR1.out.words (by rw [HL1.out]; omega)
      have v4 : v2.cell? ⟨g1, 4, none⟩ = some (.slice (some ad) (K + 1) q1.wc) := by have h := Hg1.out.cell 4; rw [← HL1.out, ← hA]; exact h
      have hlast : s1.words[K]! = ⟨nm, up, false, false⟩ := by rw [HS1W.out, ← HK.out, getD_snoc]
      have n1 := hcw.at' (show K < s1.words.length by rw [HL1.out]; omega) 1 (by decide) (v := .int .i64 up) (by rw [hlast]; rfl)
      have n3 := hcw.at' (show K < s1.words.length by rw [HL1.out]; omega) 3 (by decide) (v := .bool false) (by rw [hlast]; rfl)
      clear hA hcw hlast
      go_wp2
      go_ret
      exact ⟨rfl, HB.out⟩
    · go_wp2
      go_ret
      exact ⟨rfl, HB.out⟩
set_option maxRecDepth 100000 in
set_option maxHeartbeats 8000000 in
theorem DefsMakes2_walk (q : Ad) (s : Ps) (x : Sx) (n : Int) (hn : 0 ≤ n ∧ n < 256) (hrem : n.tmod 5 = 2) (w : World) (hp : RdP w q s) (hh : -9223372036854775808 ≤ s.here ∧ s.here ≤ 9223372036854775807) (ht : Tab w) :
    Calls Tryz.prog 5 #[stV q s, suV x, .int .u8 n] w fun e w' => e = .returned (.bool true) ∧ Below w.heap.size w w' := by
  have HN := Lib.hid hn
  have HP := Lib.hid hp
  have HT := Lib.hid ht
  have HH := Lib.hid hh
  have hB0 := below_two (below_lit w (.cells (stL q s).toArray 28)) (below_lit _ (.cells (suL x).toArray 30))
  have hS : Bx ((w.alloc (.cells (stL q s).toArray 28)).alloc (.cells (suL x).toArray 30)) w.heap.size 28 (stL q s) := (Bx.new w _ _ _ _ rfl rfl).alloc _
  have hX : Bx ((w.alloc (.cells (stL q s).toArray 28)).alloc (.cells (suL x).toArray 30)) (w.heap.size + 1) 30 (suL x) := Bx.new _ _ _ _ _ (by simp) rfl
  obtain ⟨W, hW⟩ : ∃ W, (w.alloc (.cells #[.slice q.m s.mem.length q.mc, .slice q.d s.data.length q.dc, .slice q.r s.ret.length q.rc, .slice q.c s.ctl.length q.cc, .slice q.w s.words.length q.wc, .slice q.s s.spots.length q.sc, .slice q.o s.out.length q.oc, .int .i64 s.ip, .int .i64 s.here, .int .i64 s.pos, .int .i64 s.tok, .int .i64 s.inp, .int .i64 s.err, .bool s.comp, .bool s.halt] 28)).alloc (.cells #[.string x.src, .slice x.iA x.iN x.iC, .int .i64 x.size, .int .i64 x.depth, .int .i64 x.room] 30) = W := ⟨_, rfl⟩
  have HB0 : Hid (Below w.heap.size w W) := Lib.hid (by rw [← hW]; exact hB0)
  have HG0 : Hid (Bx W w.heap.size 28 (stL q s)) := Lib.hid (by rw [← hW]; exact hS)
  have HX0 : Hid (Bx W (w.heap.size + 1) 30 (suL x)) := Lib.hid (by rw [← hW]; exact hX)
  have HWW := Lib.hid hW
  clear hp ht hh hB0 hS hX hW
  rw [stV_eq q s, suV_eq x]
  go_enter Tryz.func5, Tryz.ntmps5
  go_upto_region 1 with fail
  rw [HWW.out]
  go_wp2_with fail
  refine (awake_any _ (HT.out.below HB0.out)).mono ?_
  rintro e w1 ⟨rfl, hb⟩
  have HB := Lib.hid (below_two HB0.out hb)
  have HG := Lib.hid (HG0.out.below hb)
  have HX := Lib.hid (HX0.out.below hb)
  clear hb HB0 HG0 HX0 HWW
  go_wp2_with (first
    | (refine wp_loadS rfl 28 _ rfl w.heap.size rfl 28 (stL q s) _ HG.out Tryz.underlying28 rfl 15 infoSt rfl ?_)
    | (refine wp_loadS rfl 30 _ rfl (w.heap.size + 1) rfl 30 (suL x) _ HX.out Tryz.underlying30 rfl 5 infoSx rfl ?_))
  refine (Few12_any q s x w1 (HP.out.below HB.out)).mono ?_
  rintro e w2 ⟨⟨b, rfl, hf⟩, hb⟩
  have HF := Lib.hid hf
  have HB := Lib.hid (below_two HB.out hb)
  have HG := Lib.hid (HG.out.below hb)
  have HX := Lib.hid (HX.out.below hb)
  clear hb hf
  cases b with
  | false =>
    go_wp2
    go_ret
    exact ⟨rfl, HB.out⟩
  | true =>
    have hfs := HF.out rfl
    have HFS := Lib.hid hfs
    have HZ : Hid (SzD s) := Lib.hid ⟨by have := hfs.few.mem; omega, by have := hfs.few.data; omega, by have := hfs.few.spots; omega, by have := hfs.few.words; omega, by have := hfs.few.out; omega, fun y hy => by have := hfs.nms y hy; omega⟩
    clear hfs HF
    obtain ⟨s1, e1, b1, hd⟩ : ∃ a b c, doD x s 113 = (a, b, c) := ⟨_, _, _, rfl⟩
    have HD := Lib.hid hd
    have HLE : Hid (LeB s1 s 10) := Lib.hid (by have h := doD_le x s 113; rw [hd] at h; exact h)
    clear hd
    go_wp2_with fail
    refine (Find_any ⟨#[67, 82, 69, 65, 84, 69]⟩ 115 _ (by decide +kernel) (by decide) (HT.out.below HB.out)).mono ?_
    rintro e u0 ⟨rfl, hb⟩
    have HG := Lib.hid (HG.out.below hb)
    have HX := Lib.hid (HX.out.below hb)
    have HB := Lib.hid (below_two HB.out hb)
    clear hb
    go_wp2_with fail
    refine (Find_any ⟨#[86, 65, 82, 73, 65, 66, 76, 69]⟩ 114 _ (by decide +kernel) (by decide) (HT.out.below HB.out)).mono ?_
    rintro e u1 ⟨rfl, hb⟩
    have HG := Lib.hid (HG.out.below hb)
    have HX := Lib.hid (HX.out.below hb)
    have HB := Lib.hid (below_two HB.out hb)
    clear hb
    go_wp2_with fail
    refine (Find_any ⟨#[67, 79, 78, 83, 84, 65, 78, 84]⟩ 113 _ (by decide +kernel) (by decide) (HT.out.below HB.out)).mono ?_
    rintro e u2 ⟨rfl, hb⟩
    have HG := Lib.hid (HG.out.below hb)
    have HX := Lib.hid (HX.out.below hb)
    have HB := Lib.hid (below_two HB.out hb)
    clear hb
    go_wp2_with fail
    refine (Find_any ⟨#[77, 65, 82, 75, 69, 82]⟩ 117 _ (by decide +kernel) (by decide) (HT.out.below HB.out)).mono ?_
    rintro e u3 ⟨rfl, hb⟩
    have HG := Lib.hid (HG.out.below hb)
    have HX := Lib.hid (HX.out.below hb)
    have HB := Lib.hid (below_two HB.out hb)
    clear hb
    go_wp2_with fail
    refine (Find_any ⟨#[58]⟩ 110 _ (by decide +kernel) (by decide) (HT.out.below HB.out)).mono ?_
    rintro e u4 ⟨rfl, hb⟩
    have HG := Lib.hid (HG.out.below hb)
    have HX := Lib.hid (HX.out.below hb)
    have HB := Lib.hid (below_two HB.out hb)
    clear hb
    have HBA := Lib.hid (below_lit u4 (.cells #[.int .i64 115, .int .i64 114, .int .i64 113, .int .i64 117, .int .i64 110] 3))
    have HG := Lib.hid (HG.out.below HBA.out)
    have HX := Lib.hid (HX.out.below HBA.out)
    have HB := Lib.hid (below_two HB.out HBA.out)
    have HRR : Hid (RdI (u4.alloc (.cells #[.int .i64 115, .int .i64 114, .int .i64 113, .int .i64 117, .int .i64 110] 3)) .i64 (some ⟨u4.heap.size, 0, none⟩) 5 [115, 114, 113, 117, 110]) := Lib.hid (rd_alloc u4 [.int .i64 115, .int .i64 114, .int .i64 113, .int .i64 117, .int .i64 110] #[.int .i64 115, .int .i64 114, .int .i64 113, .int .i64 117, .int .i64 110] 3 (0, 0) 5 5 1 rfl rfl (by decide) (by decide))
    go_wp2_with (first
      | (refine wp_loadS rfl 28 _ rfl w.heap.size rfl 28 (stL q s) _ HG.out Tryz.underlying28 rfl 15 infoSt rfl ?_)
      | (refine wp_loadS rfl 30 _ rfl (w.heap.size + 1) rfl 30 (suL x) _ HX.out Tryz.underlying30 rfl 5 infoSx rfl ?_))
    refine (DoD_any 113 q s x s1 e1 b1 _ HD.out (HP.out.below HB.out) HFS.out.src HZ.out (HT.out.below HB.out)).mono ?_
    rintro e v1 ⟨q1, rfl, hr, hb⟩
    have HB := Lib.hid (below_two HB.out hb)
    have HG := Lib.hid (HG.out.below hb)
    have HX := Lib.hid (HX.out.below hb)
    have HR1 := Lib.hid hr.rd
    clear hr hb HBA HRR
    have HBL := Lib.hid (below_lit v1 (.cells (stL nilA zeroP).toArray 28))
    have HBN : Hid (Bx (v1.alloc (.cells (stL nilA zeroP).toArray 28)) v1.heap.size 28 (stL nilA zeroP)) := Lib.hid (Bx.new v1 _ _ _ _ rfl rfl)
    go_wp2_with (refine wp_storeS rfl 28 _ _ rfl v1.heap.size (stL q1 s1) rfl rfl 28 (stL nilA zeroP) HBN.out 15 infoSt rfl rfl (stL_one _ _) ?_)
    intro wv1 hg5 hw5
    have HNv1 : Hid (Below v1.heap.size v1 wv1) := Lib.hid (below_grown HBL.out HBL.out.size hw5 (Nat.le_refl _))
    obtain ⟨g1, hg⟩ : ∃ g, v1.heap.size = g := ⟨_, rfl⟩
    have Hg1 : Hid (Bx wv1 g1 28 (stL q1 s1)) := Lib.hid (by rw [← hg]; exact hg5)
    rw [hg]
    have HG := Lib.hid (HG.out.below HNv1.out)
    have HX := Lib.hid (HX.out.below HNv1.out)
    have HR1 := Lib.hid (HR1.out.below HNv1.out)
    have HB := Lib.hid (below_two HB.out HNv1.out)
    clear hg5 hw5 hg HBL HBN HNv1
    by_cases he : e1 = 0
    · subst he
      obtain ⟨s1w, s1c, s1o, s1m⟩ := made_113 HD.out
      obtain ⟨K, hK⟩ : ∃ K, s.words.length = K := ⟨_, rfl⟩
      obtain ⟨up, hup⟩ : ∃ u, upR s.here = u := ⟨_, rfl⟩
      obtain ⟨nm, hnm⟩ : ∃ n, foldB (tokS x s) = n := ⟨_, rfl⟩
      have hy : madeW x s false = ⟨nm, up, false, false⟩ := by unfold madeW; rw [hup, hnm]
      have hKb : K ≤ 40 := by rw [← hK]; exact HFS.out.few.words
      have hnmb : nm.size ≤ 200 := by rw [← hnm, foldB_size]; exact tok_size x s HFS.out.src
      rw [hy] at s1w
      have hl1 : s1.words.length = K + 1 := by rw [s1w, List.length_append, hK]; rfl
      have HZ1 : Hid (SzD s1) := Lib.hid ⟨(by rw [s1m]; have := HFS.out.few.mem; omega), by have := HLE.out.data; have := HFS.out.few.data; omega, by have := HLE.out.spots; have := HFS.out.few.spots; omega, by omega, by rw [s1o]; have := HFS.out.few.out; omega, fun y hy2 => by
        rw [s1w] at hy2
        rcases List.mem_append.1 hy2 with h | h
        · have := HFS.out.nms y h; omega
        · simp only [List.mem_singleton] at h; rw [h]; show nm.size ≤ _; omega⟩
      have w4 : wv1.cell? ⟨w.heap.size, 4, none⟩ = some (.slice q.w K q.wc) := by have h := HG.out.cell 4; rw [← hK]; exact h
      have w8 : wv1.cell? ⟨w.heap.size, 8, none⟩ = some (.int .i64 s.here) := HG.out.cell 8
      obtain ⟨ad, hA, hcw⟩ := RdE.all encW_len (by decide) HR1.out.words (by omega)
      have v4 : wv1.cell? ⟨g1, 4, none⟩ = some (.slice (some ad) (K + 1) q1.wc) := by have h := Hg1.out.cell 4; rw [← hl1, ← hA]; exact h
      have hlast : s1.words[K]! = ⟨nm, up, false, false⟩ := by rw [s1w, ← hK, getD_snoc]
      have n0 := hcw.at0 (show K < s1.words.length by omega) (v := .string nm) (by rw [hlast]; rfl)
      have n1 := hcw.at' (show K < s1.words.length by omega) 1 (by decide) (v := .int .i64 up) (by rw [hlast]; rfl)
      have n2 := hcw.at' (show K < s1.words.length by omega) 2 (by decide) (v := .bool false) (by rw [hlast]; rfl)
      have n3 := hcw.at' (show K < s1.words.length by omega) 3 (by decide) (v := .bool false) (by rw [hlast]; rfl)
      have hwk : IntKind.i64.wrap ((K : Int) + 1) = (K : Int) + 1 := IntWalk.i64_in _ (by omega)
      have hk0 : (0 : Int) ≤ K := by omega
      have hk1 : (K : Int) < (K : Int) + 1 := by omega
      have HK := Lib.hid hK
      have HUP := Lib.hid hup
      have HS1W := Lib.hid s1w
      have HS1C := Lib.hid s1c
      have HL1 := Lib.hid hl1
      clear hK hup hnm hy s1w s1c hl1 hA hcw hlast
      have HNB := Lib.hid hnmb
      have UP : ∀ m, Calls Tryz.prog 18 #[.int .i64 s.here] (wv1.drewN m) fun e w'' => e = .returned (.int .i64 up) ∧ ∃ k, w'' = wv1.drewN k := fun m => rup_quiet HUP.out HH.out.1 HH.out.2 m
      go_upto_region 9 with fail
      go_quiet (exact UP _)
      have n0d := n0
      go_upto_region 13 with fail
      have HG := Lib.hid (HG.out.below (below_drewN wv1 nq))
      have HX := Lib.hid (HX.out.below (below_drewN wv1 nq))
      have HR1 := Lib.hid (HR1.out.below (below_drewN wv1 nq))
      have Hg1 := Lib.hid (Hg1.out.below (below_drewN wv1 nq))
      have HB := Lib.hid (below_two HB.out (below_drewN wv1 nq))
      clear v4 w4 w8 n0 n1 n2 n3
      obtain ⟨nw, hnw⟩ : ∃ v, foundN s1 nm = v := ⟨_, rfl⟩
      have HNW := Lib.hid hnw
      clear hnw
      go_wp2_with (refine wp_take rfl ?_; refine wp_loadS rfl 28 _ rfl g1 rfl 28 (stL q1 s1) _ Hg1.out Tryz.underlying28 rfl 15 infoSt rfl ?_)
      refine (Found_any q1 s1 nm up nw true (wv1.drewN nq) (found_new HS1W.out rfl rfl).1 HNW.out (found_new HS1W.out rfl rfl).2 HR1.out (by have := HZ1.out.words; omega) HZ1.out.nms (by have := HNB.out; omega) (HT.out.below HB.out)).mono ?_
      rintro e v2 ⟨rfl, hb⟩
      have HR1 := Lib.hid (HR1.out.below (hb))
      have Hg1 := Lib.hid (Hg1.out.below (hb))
      have HB := Lib.hid (below_two HB.out (hb))
      clear hb
      obtain ⟨ad, hA, hcw⟩ := RdE.all encW_len (by decide) HR1.out.words (by rw [HL1.out]; omega)
      have v4 : v2.cell? ⟨g1, 4, none⟩ = some (.slice (some ad) (K + 1) q1.wc) := by have h := Hg1.out.cell 4; rw [← HL1.out, ← hA]; exact h
      have hlast : s1.words[K]! = ⟨nm, up, false, false⟩ := by rw [HS1W.out, ← HK.out, getD_snoc]
      have n1 := hcw.at' (show K < s1.words.length by rw [HL1.out]; omega) 1 (by decide) (v := .int .i64 up) (by rw [hlast]; rfl)
      have n3 := hcw.at' (show K < s1.words.length by rw [HL1.out]; omega) 3 (by decide) (v := .bool false) (by rw [hlast]; rfl)
      clear hA hcw hlast
      go_wp2
      go_ret
      exact ⟨rfl, HB.out⟩
    · go_wp2
      go_ret
      exact ⟨rfl, HB.out⟩
set_option maxRecDepth 100000 in
set_option maxHeartbeats 8000000 in
theorem DefsMakes3_walk (q : Ad) (s : Ps) (x : Sx) (n : Int) (hn : 0 ≤ n ∧ n < 256) (hrem : n.tmod 5 = 3) (w : World) (hp : RdP w q s) (hh : -9223372036854775808 ≤ s.here ∧ s.here ≤ 9223372036854775807) (ht : Tab w) :
    Calls Tryz.prog 5 #[stV q s, suV x, .int .u8 n] w fun e w' => e = .returned (.bool true) ∧ Below w.heap.size w w' := by
  have HN := Lib.hid hn
  have HP := Lib.hid hp
  have HT := Lib.hid ht
  have HH := Lib.hid hh
  have hB0 := below_two (below_lit w (.cells (stL q s).toArray 28)) (below_lit _ (.cells (suL x).toArray 30))
  have hS : Bx ((w.alloc (.cells (stL q s).toArray 28)).alloc (.cells (suL x).toArray 30)) w.heap.size 28 (stL q s) := (Bx.new w _ _ _ _ rfl rfl).alloc _
  have hX : Bx ((w.alloc (.cells (stL q s).toArray 28)).alloc (.cells (suL x).toArray 30)) (w.heap.size + 1) 30 (suL x) := Bx.new _ _ _ _ _ (by simp) rfl
  obtain ⟨W, hW⟩ : ∃ W, (w.alloc (.cells #[.slice q.m s.mem.length q.mc, .slice q.d s.data.length q.dc, .slice q.r s.ret.length q.rc, .slice q.c s.ctl.length q.cc, .slice q.w s.words.length q.wc, .slice q.s s.spots.length q.sc, .slice q.o s.out.length q.oc, .int .i64 s.ip, .int .i64 s.here, .int .i64 s.pos, .int .i64 s.tok, .int .i64 s.inp, .int .i64 s.err, .bool s.comp, .bool s.halt] 28)).alloc (.cells #[.string x.src, .slice x.iA x.iN x.iC, .int .i64 x.size, .int .i64 x.depth, .int .i64 x.room] 30) = W := ⟨_, rfl⟩
  have HB0 : Hid (Below w.heap.size w W) := Lib.hid (by rw [← hW]; exact hB0)
  have HG0 : Hid (Bx W w.heap.size 28 (stL q s)) := Lib.hid (by rw [← hW]; exact hS)
  have HX0 : Hid (Bx W (w.heap.size + 1) 30 (suL x)) := Lib.hid (by rw [← hW]; exact hX)
  have HWW := Lib.hid hW
  clear hp ht hh hB0 hS hX hW
  rw [stV_eq q s, suV_eq x]
  go_enter Tryz.func5, Tryz.ntmps5
  go_upto_region 1 with fail
  rw [HWW.out]
  go_wp2_with fail
  refine (awake_any _ (HT.out.below HB0.out)).mono ?_
  rintro e w1 ⟨rfl, hb⟩
  have HB := Lib.hid (below_two HB0.out hb)
  have HG := Lib.hid (HG0.out.below hb)
  have HX := Lib.hid (HX0.out.below hb)
  clear hb HB0 HG0 HX0 HWW
  go_wp2_with (first
    | (refine wp_loadS rfl 28 _ rfl w.heap.size rfl 28 (stL q s) _ HG.out Tryz.underlying28 rfl 15 infoSt rfl ?_)
    | (refine wp_loadS rfl 30 _ rfl (w.heap.size + 1) rfl 30 (suL x) _ HX.out Tryz.underlying30 rfl 5 infoSx rfl ?_))
  refine (Few12_any q s x w1 (HP.out.below HB.out)).mono ?_
  rintro e w2 ⟨⟨b, rfl, hf⟩, hb⟩
  have HF := Lib.hid hf
  have HB := Lib.hid (below_two HB.out hb)
  have HG := Lib.hid (HG.out.below hb)
  have HX := Lib.hid (HX.out.below hb)
  clear hb hf
  cases b with
  | false =>
    go_wp2
    go_ret
    exact ⟨rfl, HB.out⟩
  | true =>
    have hfs := HF.out rfl
    have HFS := Lib.hid hfs
    have HZ : Hid (SzD s) := Lib.hid ⟨by have := hfs.few.mem; omega, by have := hfs.few.data; omega, by have := hfs.few.spots; omega, by have := hfs.few.words; omega, by have := hfs.few.out; omega, fun y hy => by have := hfs.nms y hy; omega⟩
    clear hfs HF
    obtain ⟨s1, e1, b1, hd⟩ : ∃ a b c, doD x s 117 = (a, b, c) := ⟨_, _, _, rfl⟩
    have HD := Lib.hid hd
    have HLE : Hid (LeB s1 s 10) := Lib.hid (by have h := doD_le x s 117; rw [hd] at h; exact h)
    clear hd
    go_wp2_with fail
    refine (Find_any ⟨#[67, 82, 69, 65, 84, 69]⟩ 115 _ (by decide +kernel) (by decide) (HT.out.below HB.out)).mono ?_
    rintro e u0 ⟨rfl, hb⟩
    have HG := Lib.hid (HG.out.below hb)
    have HX := Lib.hid (HX.out.below hb)
    have HB := Lib.hid (below_two HB.out hb)
    clear hb
    go_wp2_with fail
    refine (Find_any ⟨#[86, 65, 82, 73, 65, 66, 76, 69]⟩ 114 _ (by decide +kernel) (by decide) (HT.out.below HB.out)).mono ?_
    rintro e u1 ⟨rfl, hb⟩
    have HG := Lib.hid (HG.out.below hb)
    have HX := Lib.hid (HX.out.below hb)
    have HB := Lib.hid (below_two HB.out hb)
    clear hb
    go_wp2_with fail
    refine (Find_any ⟨#[67, 79, 78, 83, 84, 65, 78, 84]⟩ 113 _ (by decide +kernel) (by decide) (HT.out.below HB.out)).mono ?_
    rintro e u2 ⟨rfl, hb⟩
    have HG := Lib.hid (HG.out.below hb)
    have HX := Lib.hid (HX.out.below hb)
    have HB := Lib.hid (below_two HB.out hb)
    clear hb
    go_wp2_with fail
    refine (Find_any ⟨#[77, 65, 82, 75, 69, 82]⟩ 117 _ (by decide +kernel) (by decide) (HT.out.below HB.out)).mono ?_
    rintro e u3 ⟨rfl, hb⟩
    have HG := Lib.hid (HG.out.below hb)
    have HX := Lib.hid (HX.out.below hb)
    have HB := Lib.hid (below_two HB.out hb)
    clear hb
    go_wp2_with fail
    refine (Find_any ⟨#[58]⟩ 110 _ (by decide +kernel) (by decide) (HT.out.below HB.out)).mono ?_
    rintro e u4 ⟨rfl, hb⟩
    have HG := Lib.hid (HG.out.below hb)
    have HX := Lib.hid (HX.out.below hb)
    have HB := Lib.hid (below_two HB.out hb)
    clear hb
    have HBA := Lib.hid (below_lit u4 (.cells #[.int .i64 115, .int .i64 114, .int .i64 113, .int .i64 117, .int .i64 110] 3))
    have HG := Lib.hid (HG.out.below HBA.out)
    have HX := Lib.hid (HX.out.below HBA.out)
    have HB := Lib.hid (below_two HB.out HBA.out)
    have HRR : Hid (RdI (u4.alloc (.cells #[.int .i64 115, .int .i64 114, .int .i64 113, .int .i64 117, .int .i64 110] 3)) .i64 (some ⟨u4.heap.size, 0, none⟩) 5 [115, 114, 113, 117, 110]) := Lib.hid (rd_alloc u4 [.int .i64 115, .int .i64 114, .int .i64 113, .int .i64 117, .int .i64 110] #[.int .i64 115, .int .i64 114, .int .i64 113, .int .i64 117, .int .i64 110] 3 (0, 0) 5 5 1 rfl rfl (by decide) (by decide))
    go_wp2_with (first
      | (refine wp_loadS rfl 28 _ rfl w.heap.size rfl 28 (stL q s) _ HG.out Tryz.underlying28 rfl 15 infoSt rfl ?_)
      | (refine wp_loadS rfl 30 _ rfl (w.heap.size + 1) rfl 30 (suL x) _ HX.out Tryz.underlying30 rfl 5 infoSx rfl ?_))
    refine (DoD_any 117 q s x s1 e1 b1 _ HD.out (HP.out.below HB.out) HFS.out.src HZ.out (HT.out.below HB.out)).mono ?_
    rintro e v1 ⟨q1, rfl, hr, hb⟩
    have HB := Lib.hid (below_two HB.out hb)
    have HG := Lib.hid (HG.out.below hb)
    have HX := Lib.hid (HX.out.below hb)
    have HR1 := Lib.hid hr.rd
    clear hr hb HBA HRR
    have HBL := Lib.hid (below_lit v1 (.cells (stL nilA zeroP).toArray 28))
    have HBN : Hid (Bx (v1.alloc (.cells (stL nilA zeroP).toArray 28)) v1.heap.size 28 (stL nilA zeroP)) := Lib.hid (Bx.new v1 _ _ _ _ rfl rfl)
    go_wp2_with (refine wp_storeS rfl 28 _ _ rfl v1.heap.size (stL q1 s1) rfl rfl 28 (stL nilA zeroP) HBN.out 15 infoSt rfl rfl (stL_one _ _) ?_)
    intro wv1 hg5 hw5
    have HNv1 : Hid (Below v1.heap.size v1 wv1) := Lib.hid (below_grown HBL.out HBL.out.size hw5 (Nat.le_refl _))
    obtain ⟨g1, hg⟩ : ∃ g, v1.heap.size = g := ⟨_, rfl⟩
    have Hg1 : Hid (Bx wv1 g1 28 (stL q1 s1)) := Lib.hid (by rw [← hg]; exact hg5)
    rw [hg]
    have HG := Lib.hid (HG.out.below HNv1.out)
    have HX := Lib.hid (HX.out.below HNv1.out)
    have HR1 := Lib.hid (HR1.out.below HNv1.out)
    have HB := Lib.hid (below_two HB.out HNv1.out)
    clear hg5 hw5 hg HBL HBN HNv1
    by_cases he : e1 = 0
    · subst he
      obtain ⟨s1w, s1c, s1o, s1m⟩ := made_117 HD.out
      obtain ⟨K, hK⟩ : ∃ K, s.words.length = K := ⟨_, rfl⟩
      obtain ⟨up, hup⟩ : ∃ u, upR s.here = u := ⟨_, rfl⟩
      obtain ⟨nm, hnm⟩ : ∃ n, foldB (tokS x s) = n := ⟨_, rfl⟩
      have hy : madeW x s false = ⟨nm, up, false, false⟩ := by unfold madeW; rw [hup, hnm]
      have hKb : K ≤ 40 := by rw [← hK]; exact HFS.out.few.words
      have hnmb : nm.size ≤ 200 := by rw [← hnm, foldB_size]; exact tok_size x s HFS.out.src
      rw [hy] at s1w
      have hl1 : s1.words.length = K + 1 := by rw [s1w, List.length_append, hK]; rfl
      have HZ1 : Hid (SzD s1) := Lib.hid ⟨(by rw [s1m]; have := HFS.out.few.mem; omega), by have := HLE.out.data; have := HFS.out.few.data; omega, by have := HLE.out.spots; have := HFS.out.few.spots; omega, by omega, by rw [s1o]; have := HFS.out.few.out; omega, fun y hy2 => by
        rw [s1w] at hy2
        rcases List.mem_append.1 hy2 with h | h
        · have := HFS.out.nms y h; omega
        · simp only [List.mem_singleton] at h; rw [h]; show nm.size ≤ _; omega⟩
      have w4 : wv1.cell? ⟨w.heap.size, 4, none⟩ = some (.slice q.w K q.wc) := by have h := HG.out.cell 4; rw [← hK]; exact h
      have w8 : wv1.cell? ⟨w.heap.size, 8, none⟩ = some (.int .i64 s.here) := HG.out.cell 8
      obtain ⟨ad, hA, hcw⟩ := RdE.all encW_len (by decide) HR1.out.words (by omega)
      have v4 : wv1.cell? ⟨g1, 4, none⟩ = some (.slice (some ad) (K + 1) q1.wc) := by have h := Hg1.out.cell 4; rw [← hl1, ← hA]; exact h
      have hlast : s1.words[K]! = ⟨nm, up, false, false⟩ := by rw [s1w, ← hK, getD_snoc]
      have n0 := hcw.at0 (show K < s1.words.length by omega) (v := .string nm) (by rw [hlast]; rfl)
      have n1 := hcw.at' (show K < s1.words.length by omega) 1 (by decide) (v := .int .i64 up) (by rw [hlast]; rfl)
      have n2 := hcw.at' (show K < s1.words.length by omega) 2 (by decide) (v := .bool false) (by rw [hlast]; rfl)
      have n3 := hcw.at' (show K < s1.words.length by omega) 3 (by decide) (v := .bool false) (by rw [hlast]; rfl)
      have hwk : IntKind.i64.wrap ((K : Int) + 1) = (K : Int) + 1 := IntWalk.i64_in _ (by omega)
      have hk0 : (0 : Int) ≤ K := by omega
      have hk1 : (K : Int) < (K : Int) + 1 := by omega
      have HK := Lib.hid hK
      have HUP := Lib.hid hup
      have HS1W := Lib.hid s1w
      have HS1C := Lib.hid s1c
      have HL1 := Lib.hid hl1
      clear hK hup hnm hy s1w s1c hl1 hA hcw hlast
      have HNB := Lib.hid hnmb
      have UP : ∀ m, Calls Tryz.prog 18 #[.int .i64 s.here] (wv1.drewN m) fun e w'' => e = .returned (.int .i64 up) ∧ ∃ k, w'' = wv1.drewN k := fun m => rup_quiet HUP.out HH.out.1 HH.out.2 m
      go_upto_region 9 with fail
      go_quiet (exact UP _)
      have n0d := n0
      go_upto_region 13 with fail
      have HG := Lib.hid (HG.out.below (below_drewN wv1 nq))
      have HX := Lib.hid (HX.out.below (below_drewN wv1 nq))
      have HR1 := Lib.hid (HR1.out.below (below_drewN wv1 nq))
      have Hg1 := Lib.hid (Hg1.out.below (below_drewN wv1 nq))
      have HB := Lib.hid (below_two HB.out (below_drewN wv1 nq))
      clear v4 w4 w8 n0 n1 n2 n3
      obtain ⟨nw, hnw⟩ : ∃ v, foundN s1 nm = v := ⟨_, rfl⟩
      have HNW := Lib.hid hnw
      clear hnw
      go_wp2_with (refine wp_take rfl ?_; refine wp_loadS rfl 28 _ rfl g1 rfl 28 (stL q1 s1) _ Hg1.out Tryz.underlying28 rfl 15 infoSt rfl ?_)
      refine (Found_any q1 s1 nm up nw true (wv1.drewN nq) (found_new HS1W.out rfl rfl).1 HNW.out (found_new HS1W.out rfl rfl).2 HR1.out (by have := HZ1.out.words; omega) HZ1.out.nms (by have := HNB.out; omega) (HT.out.below HB.out)).mono ?_
      rintro e v2 ⟨rfl, hb⟩
      have HR1 := Lib.hid (HR1.out.below (hb))
      have Hg1 := Lib.hid (Hg1.out.below (hb))
      have HB := Lib.hid (below_two HB.out (hb))
      clear hb
      obtain ⟨ad, hA, hcw⟩ := RdE.all encW_len (by decide) HR1.out.words (by rw [HL1.out]; omega)
      have v4 : v2.cell? ⟨g1, 4, none⟩ = some (.slice (some ad) (K + 1) q1.wc) := by have h := Hg1.out.cell 4; rw [← HL1.out, ← hA]; exact h
      have hlast : s1.words[K]! = ⟨nm, up, false, false⟩ := by rw [HS1W.out, ← HK.out, getD_snoc]
      have n1 := hcw.at' (show K < s1.words.length by rw [HL1.out]; omega) 1 (by decide) (v := .int .i64 up) (by rw [hlast]; rfl)
      have n3 := hcw.at' (show K < s1.words.length by rw [HL1.out]; omega) 3 (by decide) (v := .bool false) (by rw [hlast]; rfl)
      clear hA hcw hlast
      go_wp2
      go_ret
      exact ⟨rfl, HB.out⟩
    · go_wp2
      go_ret
      exact ⟨rfl, HB.out⟩
set_option maxRecDepth 100000 in
set_option maxHeartbeats 8000000 in
theorem DefsMakes4_walk (q : Ad) (s : Ps) (x : Sx) (n : Int) (hn : 0 ≤ n ∧ n < 256) (hrem : n.tmod 5 = 4) (w : World) (hp : RdP w q s) (hh : -9223372036854775808 ≤ s.here ∧ s.here ≤ 9223372036854775807) (ht : Tab w) :
    Calls Tryz.prog 5 #[stV q s, suV x, .int .u8 n] w fun e w' => e = .returned (.bool true) ∧ Below w.heap.size w w' := by
  have HN := Lib.hid hn
  have HP := Lib.hid hp
  have HT := Lib.hid ht
  have HH := Lib.hid hh
  have hB0 := below_two (below_lit w (.cells (stL q s).toArray 28)) (below_lit _ (.cells (suL x).toArray 30))
  have hS : Bx ((w.alloc (.cells (stL q s).toArray 28)).alloc (.cells (suL x).toArray 30)) w.heap.size 28 (stL q s) := (Bx.new w _ _ _ _ rfl rfl).alloc _
  have hX : Bx ((w.alloc (.cells (stL q s).toArray 28)).alloc (.cells (suL x).toArray 30)) (w.heap.size + 1) 30 (suL x) := Bx.new _ _ _ _ _ (by simp) rfl
  obtain ⟨W, hW⟩ : ∃ W, (w.alloc (.cells #[.slice q.m s.mem.length q.mc, .slice q.d s.data.length q.dc, .slice q.r s.ret.length q.rc, .slice q.c s.ctl.length q.cc, .slice q.w s.words.length q.wc, .slice q.s s.spots.length q.sc, .slice q.o s.out.length q.oc, .int .i64 s.ip, .int .i64 s.here, .int .i64 s.pos, .int .i64 s.tok, .int .i64 s.inp, .int .i64 s.err, .bool s.comp, .bool s.halt] 28)).alloc (.cells #[.string x.src, .slice x.iA x.iN x.iC, .int .i64 x.size, .int .i64 x.depth, .int .i64 x.room] 30) = W := ⟨_, rfl⟩
  have HB0 : Hid (Below w.heap.size w W) := Lib.hid (by rw [← hW]; exact hB0)
  have HG0 : Hid (Bx W w.heap.size 28 (stL q s)) := Lib.hid (by rw [← hW]; exact hS)
  have HX0 : Hid (Bx W (w.heap.size + 1) 30 (suL x)) := Lib.hid (by rw [← hW]; exact hX)
  have HWW := Lib.hid hW
  clear hp ht hh hB0 hS hX hW
  rw [stV_eq q s, suV_eq x]
  go_enter Tryz.func5, Tryz.ntmps5
  go_upto_region 1 with fail
  rw [HWW.out]
  go_wp2_with fail
  refine (awake_any _ (HT.out.below HB0.out)).mono ?_
  rintro e w1 ⟨rfl, hb⟩
  have HB := Lib.hid (below_two HB0.out hb)
  have HG := Lib.hid (HG0.out.below hb)
  have HX := Lib.hid (HX0.out.below hb)
  clear hb HB0 HG0 HX0 HWW
  go_wp2_with (first
    | (refine wp_loadS rfl 28 _ rfl w.heap.size rfl 28 (stL q s) _ HG.out Tryz.underlying28 rfl 15 infoSt rfl ?_)
    | (refine wp_loadS rfl 30 _ rfl (w.heap.size + 1) rfl 30 (suL x) _ HX.out Tryz.underlying30 rfl 5 infoSx rfl ?_))
  refine (Few12_any q s x w1 (HP.out.below HB.out)).mono ?_
  rintro e w2 ⟨⟨b, rfl, hf⟩, hb⟩
  have HF := Lib.hid hf
  have HB := Lib.hid (below_two HB.out hb)
  have HG := Lib.hid (HG.out.below hb)
  have HX := Lib.hid (HX.out.below hb)
  clear hb hf
  cases b with
  | false =>
    go_wp2
    go_ret
    exact ⟨rfl, HB.out⟩
  | true =>
    have hfs := HF.out rfl
    have HFS := Lib.hid hfs
    have HZ : Hid (SzD s) := Lib.hid ⟨by have := hfs.few.mem; omega, by have := hfs.few.data; omega, by have := hfs.few.spots; omega, by have := hfs.few.words; omega, by have := hfs.few.out; omega, fun y hy => by have := hfs.nms y hy; omega⟩
    clear hfs HF
    obtain ⟨s1, e1, b1, hd⟩ : ∃ a b c, doD x s 110 = (a, b, c) := ⟨_, _, _, rfl⟩
    have HD := Lib.hid hd
    have HLE : Hid (LeB s1 s 10) := Lib.hid (by have h := doD_le x s 110; rw [hd] at h; exact h)
    clear hd
    go_wp2_with fail
    refine (Find_any ⟨#[67, 82, 69, 65, 84, 69]⟩ 115 _ (by decide +kernel) (by decide) (HT.out.below HB.out)).mono ?_
    rintro e u0 ⟨rfl, hb⟩
    have HG := Lib.hid (HG.out.below hb)
    have HX := Lib.hid (HX.out.below hb)
    have HB := Lib.hid (below_two HB.out hb)
    clear hb
    go_wp2_with fail
    refine (Find_any ⟨#[86, 65, 82, 73, 65, 66, 76, 69]⟩ 114 _ (by decide +kernel) (by decide) (HT.out.below HB.out)).mono ?_
    rintro e u1 ⟨rfl, hb⟩
    have HG := Lib.hid (HG.out.below hb)
    have HX := Lib.hid (HX.out.below hb)
    have HB := Lib.hid (below_two HB.out hb)
    clear hb
    go_wp2_with fail
    refine (Find_any ⟨#[67, 79, 78, 83, 84, 65, 78, 84]⟩ 113 _ (by decide +kernel) (by decide) (HT.out.below HB.out)).mono ?_
    rintro e u2 ⟨rfl, hb⟩
    have HG := Lib.hid (HG.out.below hb)
    have HX := Lib.hid (HX.out.below hb)
    have HB := Lib.hid (below_two HB.out hb)
    clear hb
    go_wp2_with fail
    refine (Find_any ⟨#[77, 65, 82, 75, 69, 82]⟩ 117 _ (by decide +kernel) (by decide) (HT.out.below HB.out)).mono ?_
    rintro e u3 ⟨rfl, hb⟩
    have HG := Lib.hid (HG.out.below hb)
    have HX := Lib.hid (HX.out.below hb)
    have HB := Lib.hid (below_two HB.out hb)
    clear hb
    go_wp2_with fail
    refine (Find_any ⟨#[58]⟩ 110 _ (by decide +kernel) (by decide) (HT.out.below HB.out)).mono ?_
    rintro e u4 ⟨rfl, hb⟩
    have HG := Lib.hid (HG.out.below hb)
    have HX := Lib.hid (HX.out.below hb)
    have HB := Lib.hid (below_two HB.out hb)
    clear hb
    have HBA := Lib.hid (below_lit u4 (.cells #[.int .i64 115, .int .i64 114, .int .i64 113, .int .i64 117, .int .i64 110] 3))
    have HG := Lib.hid (HG.out.below HBA.out)
    have HX := Lib.hid (HX.out.below HBA.out)
    have HB := Lib.hid (below_two HB.out HBA.out)
    have HRR : Hid (RdI (u4.alloc (.cells #[.int .i64 115, .int .i64 114, .int .i64 113, .int .i64 117, .int .i64 110] 3)) .i64 (some ⟨u4.heap.size, 0, none⟩) 5 [115, 114, 113, 117, 110]) := Lib.hid (rd_alloc u4 [.int .i64 115, .int .i64 114, .int .i64 113, .int .i64 117, .int .i64 110] #[.int .i64 115, .int .i64 114, .int .i64 113, .int .i64 117, .int .i64 110] 3 (0, 0) 5 5 1 rfl rfl (by decide) (by decide))
    go_wp2_with (first
      | (refine wp_loadS rfl 28 _ rfl w.heap.size rfl 28 (stL q s) _ HG.out Tryz.underlying28 rfl 15 infoSt rfl ?_)
      | (refine wp_loadS rfl 30 _ rfl (w.heap.size + 1) rfl 30 (suL x) _ HX.out Tryz.underlying30 rfl 5 infoSx rfl ?_))
    refine (DoD_any 110 q s x s1 e1 b1 _ HD.out (HP.out.below HB.out) HFS.out.src HZ.out (HT.out.below HB.out)).mono ?_
    rintro e v1 ⟨q1, rfl, hr, hb⟩
    have HB := Lib.hid (below_two HB.out hb)
    have HG := Lib.hid (HG.out.below hb)
    have HX := Lib.hid (HX.out.below hb)
    have HR1 := Lib.hid hr.rd
    clear hr hb HBA HRR
    have HBL := Lib.hid (below_lit v1 (.cells (stL nilA zeroP).toArray 28))
    have HBN : Hid (Bx (v1.alloc (.cells (stL nilA zeroP).toArray 28)) v1.heap.size 28 (stL nilA zeroP)) := Lib.hid (Bx.new v1 _ _ _ _ rfl rfl)
    go_wp2_with (refine wp_storeS rfl 28 _ _ rfl v1.heap.size (stL q1 s1) rfl rfl 28 (stL nilA zeroP) HBN.out 15 infoSt rfl rfl (stL_one _ _) ?_)
    intro wv1 hg5 hw5
    have HNv1 : Hid (Below v1.heap.size v1 wv1) := Lib.hid (below_grown HBL.out HBL.out.size hw5 (Nat.le_refl _))
    obtain ⟨g1, hg⟩ : ∃ g, v1.heap.size = g := ⟨_, rfl⟩
    have Hg1 : Hid (Bx wv1 g1 28 (stL q1 s1)) := Lib.hid (by rw [← hg]; exact hg5)
    rw [hg]
    have HG := Lib.hid (HG.out.below HNv1.out)
    have HX := Lib.hid (HX.out.below HNv1.out)
    have HR1 := Lib.hid (HR1.out.below HNv1.out)
    have HB := Lib.hid (below_two HB.out HNv1.out)
    clear hg5 hw5 hg HBL HBN HNv1
    by_cases he : e1 = 0
    · subst he
      obtain ⟨⟨s1w, s1c, s1o, s1m⟩, s1k⟩ := made_110 HD.out
      obtain ⟨K, hK⟩ : ∃ K, s.words.length = K := ⟨_, rfl⟩
      obtain ⟨up, hup⟩ : ∃ u, upR s.here = u := ⟨_, rfl⟩
      obtain ⟨nm, hnm⟩ : ∃ n, foldB (tokS x s) = n := ⟨_, rfl⟩
      have hy : madeW x s true = ⟨nm, up, false, true⟩ := by unfold madeW; rw [hup, hnm]
      have hKb : K ≤ 40 := by rw [← hK]; exact HFS.out.few.words
      have hnmb : nm.size ≤ 200 := by rw [← hnm, foldB_size]; exact tok_size x s HFS.out.src
      rw [hy] at s1w
      have hl1 : s1.words.length = K + 1 := by rw [s1w, List.length_append, hK]; rfl
      have HZ1 : Hid (SzD s1) := Lib.hid ⟨(by rw [s1m]; have := HFS.out.few.mem; omega), by have := HLE.out.data; have := HFS.out.few.data; omega, by have := HLE.out.spots; have := HFS.out.few.spots; omega, by omega, by rw [s1o]; have := HFS.out.few.out; omega, fun y hy2 => by
        rw [s1w] at hy2
        rcases List.mem_append.1 hy2 with h | h
        · have := HFS.out.nms y h; omega
        · simp only [List.mem_singleton] at h; rw [h]; show nm.size ≤ _; omega⟩
      have w4 : wv1.cell? ⟨w.heap.size, 4, none⟩ = some (.slice q.w K q.wc) := by have h := HG.out.cell 4; rw [← hK]; exact h
      have w8 : wv1.cell? ⟨w.heap.size, 8, none⟩ = some (.int .i64 s.here) := HG.out.cell 8
      obtain ⟨ad, hA, hcw⟩ := RdE.all encW_len (by decide) HR1.out.words (by omega)
      have v4 : wv1.cell? ⟨g1, 4, none⟩ = some (.slice (some ad) (K + 1) q1.wc) := by have h := Hg1.out.cell 4; rw [← hl1, ← hA]; exact h
      have hlast : s1.words[K]! = ⟨nm, up, false, true⟩ := by rw [s1w, ← hK, getD_snoc]
      have n0 := hcw.at0 (show K < s1.words.length by omega) (v := .string nm) (by rw [hlast]; rfl)
      have n1 := hcw.at' (show K < s1.words.length by omega) 1 (by decide) (v := .int .i64 up) (by rw [hlast]; rfl)
      have n2 := hcw.at' (show K < s1.words.length by omega) 2 (by decide) (v := .bool false) (by rw [hlast]; rfl)
      have n3 := hcw.at' (show K < s1.words.length by omega) 3 (by decide) (v := .bool true) (by rw [hlast]; rfl)
      have hwk : IntKind.i64.wrap ((K : Int) + 1) = (K : Int) + 1 := IntWalk.i64_in _ (by omega)
      have hk0 : (0 : Int) ≤ K := by omega
      have hk1 : (K : Int) < (K : Int) + 1 := by omega
      have HK := Lib.hid hK
      have HUP := Lib.hid hup
      have HS1W := Lib.hid s1w
      have HS1C := Lib.hid s1c
      have HL1 := Lib.hid hl1
      clear hK hup hnm hy s1w s1c hl1 hA hcw hlast
      have HNB := Lib.hid hnmb
      have UP : ∀ m, Calls Tryz.prog 18 #[.int .i64 s.here] (wv1.drewN m) fun e w'' => e = .returned (.int .i64 up) ∧ ∃ k, w'' = wv1.drewN k := fun m => rup_quiet HUP.out HH.out.1 HH.out.2 m
      go_upto_region 9 with fail
      go_quiet (exact UP _)
      have HG := Lib.hid (HG.out.below (below_drewN wv1 nq))
      have HX := Lib.hid (HX.out.below (below_drewN wv1 nq))
      have HR1 := Lib.hid (HR1.out.below (below_drewN wv1 nq))
      have Hg1 := Lib.hid (Hg1.out.below (below_drewN wv1 nq))
      have HB := Lib.hid (below_two HB.out (below_drewN wv1 nq))
      go_upto_region 15 with fail
      clear v4 w4 w8 n0 n1 n2 n3
      have HCM : Hid (s1.comp = true) := Lib.hid s1k
      clear s1k
      obtain ⟨wd, hwd⟩ : ∃ v, wv1.drewN nq = v := ⟨_, rfl⟩
      rw [hwd] at HG HX HR1 Hg1 HB ⊢
      clear hwd UP
      obtain ⟨u1, f1, b2, hd2⟩ : ∃ a b c, doD x s1 111 = (a, b, c) := ⟨_, _, _, rfl⟩
      obtain ⟨rfl, hu, hct⟩ := end_made HS1W.out rfl hd2
      have hz : f1 ≠ 0 → u1 = zeroP := (resF_cases (show resF (endD (s1, 0)) = (u1, f1, true) from hd2)).2.1
      have HD2 := Lib.hid hd2
      have HU := Lib.hid hu
      have HCT := Lib.hid hct
      have HUN : Hid (u1.words.length ≤ 1000000 ∧ ∀ y ∈ u1.words, y.nm.size ≤ 140737488355327) := Lib.hid (by
        by_cases h0 : f1 = 0
        · rw [(hu h0).1]
          refine ⟨by rw [List.length_append, HK.out]; show K + 1 ≤ _; omega, fun y hy => ?_⟩
          rcases List.mem_append.1 hy with h | h
          · have := HFS.out.nms y h; omega
          · simp only [List.mem_singleton] at h
            rw [h]
            have := HNB.out
            show nm.size ≤ _
            omega
        · rw [hz h0]
          exact ⟨by decide, fun y hy => by cases hy⟩)
      have HPW := Lib.hid HR1.out
      clear hd2 hu hct hz
      go_upto_region 15 with fail
      go_cut [17, 18, 19] (fun a b c wx => ∃ (g : Nat) (q : Ad), a = .pointer (some ⟨g, 0, none⟩) ∧ b = .int .i64 (f1) ∧ c = .bool true ∧ Hid (Bx wx g 28 (stL q u1)) ∧ Hid (RdP wx q u1) ∧ Hid (Below wd.heap.size wd wx))
      case first =>
        refine wp_region_facts (W := wd) [fVal (stV q1 s1), fVal (suV x), fVal (.int .i64 111), fTup u1 [.int .i64 (f1), .bool true], fTup u1 [.int .i64 (f1), .bool true], fSt u1, fVal (.int .i64 (f1)), fVal (.bool true), fBox 16 28 (stL nilA zeroP), fSet 16 28 u1, fVal (.int .i64 (f1)), fVal (.bool true)] (fun | 3 => [0, 1, 2] | 4 => [3] | 5 => [4] | 6 => [4] | 7 => [4] | 9 => [8, 5] | 10 => [6] | 11 => [7] | _ => []) (fun | 9 => 17 | i => 2 * i) _ rfl rfl (by kernel_rfl) (by kernel_rfl) ?_ ?_ ?_
        · exact (.cons (stable_val _ _) (.cons (stable_val _ _) (.cons (stable_val _ _) (.cons (stable_tup _ _ _) (.cons (stable_tup _ _ _) (.cons (stable_st _ _) (.cons (stable_val _ _) (.cons (stable_val _ _) (.cons (stable_box _ _ _ _) (.cons (stable_set _ _ _ _) (.cons (stable_val _ _) (.cons (stable_val _ _) AllStable.nil))))))))))))
        · refine ⟨?_, ?_, ?_, ?_, ?_, ?_, ?_, ?_, ?_, ?_, ?_, ?_, trivial⟩
          · intro a γ v hj hu hd hf
            exact rg_load 28 _ rfl g1 (hf 9 (by decide)) 28 (stL q1 s1) _ (Hg1.out.below hj.below) Tryz.underlying28 rfl 15 infoSt rfl ⟨_, rfl, .quiet rfl⟩
          · intro a γ v hj hu hd hf
            exact rg_load 30 _ rfl (w.heap.size + 1) (hf 4 (by decide)) 30 (suL x) _ (HX.out.below hj.below) Tryz.underlying30 rfl 5 infoSx rfl ⟨_, rfl, .quiet rfl⟩
          · intro a γ v hj hu hd hf
            refine rg_call 17 _ _ rfl #[.string ⟨#[59]⟩] (by simp [Act.eval]) (by go_simp) _ (Find_any ⟨#[59]⟩ 111 v (by decide +kernel) (by decide) (HT.out.below (below_two HB.out hj.below))) ?_
            rintro e w' ⟨rfl, hb⟩
            exact ⟨_, rfl, _, rfl, .grow hb rfl⟩
          · intro a γ v hj hu hd hf
            obtain ⟨x0, e0, rfl⟩ := hd 0 (by simp)
            obtain ⟨x1, e1', rfl⟩ := hd 1 (by simp)
            obtain ⟨x2, e2, rfl⟩ := hd 2 (by simp)
            refine rg_call 10 _ _ rfl #[stV q1 s1, suV x, .int .i64 111] (by simp [e0 125 rfl, e1' 126 rfl, e2 127 rfl]) (by go_simp) _ (DoD_any 111 q1 s1 x u1 f1 true v HD2.out (HPW.out.below hj.below) HFS.out.src HZ1.out (HT.out.below (below_two HB.out hj.below))) ?_
            rintro e w' ⟨q', rfl, hres, hb⟩
            exact ⟨_, rfl, _, rfl, .grow hb ⟨q', rfl, .of_res hj (hj.lies_old HPW.out) hres⟩⟩
          · intro a γ v hj hu hd hf
            obtain ⟨x, e, q, rfl, hs⟩ := hd 3 (by simp)
            exact rg_move _ rfl _ (e 128 rfl) ⟨_, rfl, .quiet ⟨q, rfl, hs⟩⟩
          · intro a γ v hj hu hd hf
            obtain ⟨x, e, q, rfl, hs⟩ := hd 4 (by simp)
            exact rg_extract _ _ rfl _ (e 124 rfl) _ rfl ⟨_, rfl, .quiet ⟨q, rfl, hs⟩⟩
          · intro a γ v hj hu hd hf
            obtain ⟨x, e, q, rfl, hs⟩ := hd 4 (by simp)
            exact rg_extract _ _ rfl _ (e 124 rfl) _ rfl ⟨_, rfl, .quiet rfl⟩
          · intro a γ v hj hu hd hf
            obtain ⟨x, e, q, rfl, hs⟩ := hd 4 (by simp)
            exact rg_extract _ _ rfl _ (e 124 rfl) _ rfl ⟨_, rfl, .quiet rfl⟩
          · intro a γ v hj hu hd hf
            refine rg_alloc 28 rfl (stL nilA zeroP) (.agg (stL nilA zeroP).toArray) (by kernel_rfl) rfl ?_
            intro w' g hx hb h1 h2
            exact ⟨_, rfl, .box (by kernel_rfl) (by decide) hu hb h1 h2 hx⟩
          · intro a γ v hj hu hd hf
            obtain ⟨x1, e1, g, rfl, hg, hx⟩ := hd 8 (by simp)
            obtain ⟨x2, e2, q, rfl, hs⟩ := hd 5 (by simp)
            refine rg_store 28 _ _ rfl g (stL q u1) (e1 17 rfl) (e2 129 rfl) 28 _ (hx hu) 15 infoSt rfl rfl (stL_one q u1) ?_
            intro w' hx' hg'
            exact ⟨_, rfl, .set (k := 16) (by kernel_rfl) (by decide) rfl hg hu hg' ⟨q, GE.st (.set 16 g hg hu hg') hs, g, by rw [gset_other _ _ (by decide)]; exact hg, gset_same _ _ _, hx'⟩⟩
          · intro a γ v hj hu hd hf
            obtain ⟨x, e, rfl⟩ := hd 6 (by simp)
            exact rg_assign _ rfl _ (e 130 rfl) ⟨_, rfl, .quiet rfl⟩
          · intro a γ v hj hu hd hf
            obtain ⟨x, e, rfl⟩ := hd 7 (by simp)
            exact rg_assign _ rfl _ (e 131 rfl) ⟨_, rfl, .quiet rfl⟩
        · intro V γ v hj h
          obtain ⟨g, h8, hg, _⟩ := h 8 (by decide)
          obtain ⟨q', ⟨hr, _⟩, g', hg', _, hx⟩ := h 9 (by decide)
          have h10 : V 10 = .int .i64 (f1) := h 10 (by decide)
          have h11 : V 11 = .bool true := h 11 (by decide)
          simp only [List.map_cons, List.map_nil, putD, Act.put, List.setIfInBounds_toArray, List.set_cons_succ, List.set_cons_zero, Nat.reduceAdd, Nat.zero_add, h8, h10, h11]
          go_wp2_with fail
          go_meet
          rw [hg] at hg'
          cases hg'
          exact ⟨g, q', rfl, rfl, rfl, Lib.hid hx, Lib.hid hr, Lib.hid hj.below⟩
      case rest =>
        obtain ⟨g2, q2, rfl, rfl, rfl, HG2, HP2, HB2⟩ := hcut
        obtain ⟨W2, hW⟩ : ∃ W, W = wc := ⟨_, rfl⟩
        subst hW
        have HG := Lib.hid (HG.out.below (HB2.out))
        have HR1 := Lib.hid (HR1.out.below (HB2.out))
        have Hg1 := Lib.hid (Hg1.out.below (HB2.out))
        have HB := Lib.hid (below_two HB.out (HB2.out))
        clear HB2 HPW HX
        obtain ⟨c0, hc0⟩ : ∃ v, foundC s nm = v := ⟨_, rfl⟩
        obtain ⟨i0, hi0⟩ : ∃ v, foundI s nm = v := ⟨_, rfl⟩
        obtain ⟨nw0, hn0⟩ : ∃ v, foundN s nm = v := ⟨_, rfl⟩
        obtain ⟨nw1, hn1⟩ : ∃ v, foundN s1 nm = v := ⟨_, rfl⟩
        obtain ⟨nw2, hn2⟩ : ∃ v, foundN u1 nm = v := ⟨_, rfl⟩
        obtain ⟨c2, hc2⟩ : ∃ v, foundC u1 nm = v := ⟨_, rfl⟩
        obtain ⟨i2, hi2⟩ : ∃ v, foundI u1 nm = v := ⟨_, rfl⟩
        have F0 := Lib.hid (show foundC s nm = c0 ∧ foundN s nm = nw0 ∧ foundI s nm = i0 from ⟨hc0, hn0, hi0⟩)
        have F1 := Lib.hid (show foundC s1 nm = c0 ∧ foundN s1 nm = nw1 ∧ foundI s1 nm = i0 from ⟨by rw [(found_hid HS1W.out rfl).1, hc0], hn1, by rw [(found_hid HS1W.out rfl).2, hi0]⟩)
        have F2 := Lib.hid (show foundC u1 nm = c2 ∧ foundN u1 nm = nw2 ∧ foundI u1 nm = i2 from ⟨hc2, hn2, hi2⟩)
        have F3 : Hid (f1 = 0 → c2 = up ∧ i2 = true ∧ u1.comp = false) := Lib.hid (fun h0 => ⟨by rw [← hc2]; exact (found_new (HU.out h0).1 rfl rfl).1, by rw [← hi2]; exact (found_new (HU.out h0).1 rfl rfl).2, (HU.out h0).2⟩)
        clear hc0 hi0 hn0 hn1 hn2 hc2 hi2
        go_upto_region 16 with fail
        go_wp2_with (refine wp_take rfl ?_; refine wp_loadS rfl 28 _ rfl w.heap.size rfl 28 (stL q s) _ HG.out Tryz.underlying28 rfl 15 infoSt rfl ?_)
        refine (Found_any q s nm c0 nw0 i0 W2 F0.out.1 F0.out.2.1 F0.out.2.2 (HP.out.below HB.out) (by have := HZ.out.words; omega) HZ.out.nms (by have := HNB.out; omega) (HT.out.below HB.out)).mono ?_
        rintro e v3 ⟨rfl, hb⟩
        have HR1 := Lib.hid (HR1.out.below (hb))
        have Hg1 := Lib.hid (Hg1.out.below (hb))
        have HG2 := Lib.hid (HG2.out.below (hb))
        have HP2 := Lib.hid (HP2.out.below (hb))
        have HB := Lib.hid (below_two HB.out (hb))
        clear hb HG
        go_upto_region 17 with fail
        go_wp2_with (refine wp_take rfl ?_; refine wp_loadS rfl 28 _ rfl g1 rfl 28 (stL q1 s1) _ Hg1.out Tryz.underlying28 rfl 15 infoSt rfl ?_)
        refine (Found_any q1 s1 nm c0 nw1 i0 v3 F1.out.1 F1.out.2.1 F1.out.2.2 HR1.out (by have := HZ1.out.words; omega) HZ1.out.nms (by have := HNB.out; omega) (HT.out.below HB.out)).mono ?_
        rintro e v4 ⟨rfl, hb⟩
        have HR1 := Lib.hid (HR1.out.below (hb))
        have Hg1 := Lib.hid (Hg1.out.below (hb))
        have HG2 := Lib.hid (HG2.out.below (hb))
        have HP2 := Lib.hid (HP2.out.below (hb))
        have HB := Lib.hid (below_two HB.out (hb))
        clear hb
        go_upto_region 18 with fail
        go_wp2_with (refine wp_take rfl ?_; refine wp_loadS rfl 28 _ rfl g2 rfl 28 (stL q2 u1) _ HG2.out Tryz.underlying28 rfl 15 infoSt rfl ?_)
        refine (Found_any q2 u1 nm c2 nw2 i2 v4 F2.out.1 F2.out.2.1 F2.out.2.2 HP2.out HUN.out.1 HUN.out.2 (by have := HNB.out; omega) (HT.out.below HB.out)).mono ?_
        rintro e v5 ⟨rfl, hb⟩
        have HR1 := Lib.hid (HR1.out.below (hb))
        have Hg1 := Lib.hid (Hg1.out.below (hb))
        have HG2 := Lib.hid (HG2.out.below (hb))
        have HP2 := Lib.hid (HP2.out.below (hb))
        have HB := Lib.hid (below_two HB.out (hb))
        clear hb
        obtain ⟨ad, hA, hcw⟩ := RdE.all encW_len (by decide) HR1.out.words (by rw [HL1.out]; omega)
        have v4 : v5.cell? ⟨g1, 4, none⟩ = some (.slice (some ad) (K + 1) q1.wc) := by have h := Hg1.out.cell 4; rw [← HL1.out, ← hA]; exact h
        have hlast : s1.words[K]! = ⟨nm, up, false, true⟩ := by rw [HS1W.out, ← HK.out, getD_snoc]
        have n1 := hcw.at' (show K < s1.words.length by rw [HL1.out]; omega) 1 (by decide) (v := .int .i64 up) (by rw [hlast]; rfl)
        have n3 := hcw.at' (show K < s1.words.length by rw [HL1.out]; omega) 3 (by decide) (v := .bool true) (by rw [hlast]; rfl)
        clear hA hcw hlast
        have t13 : v5.cell? ⟨g1, 13, none⟩ = some (.bool true) := by have h := Hg1.out.cell 13; rw [← HCM.out]; exact h
        have t3 : v5.cell? ⟨g1, 3, none⟩ = some (.slice q1.c s1.ctl.length q1.cc) := Hg1.out.cell 3
        have u13 : v5.cell? ⟨g2, 13, none⟩ = some (.bool u1.comp) := HG2.out.cell 13
        by_cases hf : f1 = 0
        · obtain ⟨rfl, rfl, hcmp⟩ := F3.out hf
          rw [hcmp] at u13
          clear hcmp
          subst hf
          go_wp2
          go_ret
          exact ⟨rfl, HB.out⟩
        · by_cases hf2 : f1 = -22
          · have hcl : 0 < s1.ctl.length := HCT.out hf2
            obtain ⟨cl, hcl2⟩ : ∃ n, s1.ctl.length = n := ⟨_, rfl⟩
            rw [hcl2] at t3 hcl
            have hcl3 : (0 : Int) < cl := by omega
            subst hf2
            clear hcl2
            go_wp2
            all_goals go_ret
            all_goals exact ⟨rfl, HB.out⟩
          · go_wp2
            all_goals go_ret
            all_goals exact ⟨rfl, HB.out⟩
    · go_wp2
      go_ret
      exact ⟨rfl, HB.out⟩
theorem DefsMakes_walk (q : Ad) (s : Ps) (x : Sx) (n : Int) (w : World) (hp : RdP w q s) (hh : -9223372036854775808 ≤ s.here ∧ s.here ≤ 9223372036854775807) (hn : 0 ≤ n ∧ n < 256) (ht : Tab w) :
    Calls Tryz.prog 5 #[stV q s, suV x, .int .u8 n] w fun e w' => e = .returned (.bool true) ∧ Below w.heap.size w w' := by
  obtain ⟨r, hr, hr0, hr1⟩ : ∃ r : Int, n.tmod 5 = r ∧ 0 ≤ r ∧ r < 5 := ⟨_, rfl, by rw [Int.tmod_eq_emod_of_nonneg hn.1]; omega, by rw [Int.tmod_eq_emod_of_nonneg hn.1]; omega⟩
  rcases (show r = 0 ∨ r = 1 ∨ r = 2 ∨ r = 3 ∨ r = 4 by omega) with rfl | rfl | rfl | rfl | rfl
  · exact DefsMakes0_walk q s x n hn hr w hp hh ht
  · exact DefsMakes1_walk q s x n hn hr w hp hh ht
  · exact DefsMakes2_walk q s x n hn hr w hp hh ht
  · exact DefsMakes3_walk q s x n hn hr w hp hh ht
  · exact DefsMakes4_walk q s x n hn hr w hp hh ht
end Go.Proofs.YtappfhjknihboaaGreatDoor
