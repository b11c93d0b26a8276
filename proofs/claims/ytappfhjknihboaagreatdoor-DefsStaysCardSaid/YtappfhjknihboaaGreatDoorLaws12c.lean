
/- The walk of DefsStays. -/
import Derived.Test.YtappfhjknihboaaGreatDoorLaws12
import Derived.Test.YtappfhjknihboaaGreatDoorPlainS12
namespace Go.Proofs.YtappfhjknihboaaGreatDoor
open Go.RowKit

set_option maxRecDepth 100000 in
set_option maxHeartbeats 8000000 in
theorem DefsStays0_walk (q : Ad) (s : Ps) (x : Sx) (n : Int) (hn : 0 ≤ n ∧ n < 256) (hrem : n.tmod 6 = 0) (w : World) (hp : RdP w q s) (hh : -9223372036854775808 ≤ s.here ∧ s.here ≤ 9223372036854775807) (ht : Tab w) :
    Calls Tryz.prog 6 #[stV q s, suV x, .int .u8 n] w fun e w' => e = .returned (.bool true) ∧ Below w.heap.size w w' := by
  have HN := Lib.hid hn
  have HP := Lib.hid hp
  have HT := Lib.hid ht
  have HH := Lib.hid hh
  have hB0 := below_two (below_lit w (.cells (stL q s).toArray 28)) (below_lit _ (.cells (suL x).toArray 30))
  have hS : Bx ((w.alloc (.cells (stL q s).toArray 28)).alloc (.cells (suL x).toArray 30)) w.heap.size 28 (stL q s) := (Bx.new w _ _ _ _ rfl rfl).alloc _
  have hX : Bx ((w.alloc (.cells (stL q s).toArray 28)).alloc (.cells (suL x).toArray 30)) (w.heap.size + 1) 30 (suL x) := Bx.new _ _ _ _ _ (by simp) rfl
  obtain ⟨W, hW⟩ : ∃ W, (w.alloc (.cells #[.slice q.m s.mem.length q.mc, .slice q.d s.data.length q.dc, .slice q.r s.ret.length q.rc, .slice q.c s.ctl.length q.cc, .slice q.w s.words.length q.wc, .slice q.s s.spots.length q.sc, .slice q.o s.out.length q.oc, .int .i64 s.ip, .int .i64 s.here, .int .i64 s.pos, .int .i64 s.tok, .int .i64 s.inp, .int .i64 s.err, .bool s.comp, .bool s.halt] 28)).alloc (.cells #[.string x.src, .slice x.iA x.iN x.iC, .int .i64 x.size, .int .i64 x.depth, .int .i64 x.room] 30) = W := ⟨_, rfl⟩
  have HB0 : Hid (Below w.heap.size w W) := Lib.hid (by rw [← hW]; exact hB0)
  have HG0 : Hid (Bx W w.heap.size 28 (stL q s)) := Lib.hid (by rw [← hW]; exact hS)
  have HX0 : Hid (Bx W (w.heap.size + 1) 30 (suL x)) := Lib.hid (by rw [← hW]; exact hX)
  have HWW := Lib.hid hW
  clear hp ht hh hB0 hS hX hW
  rw [stV_eq q s, suV_eq x]
  go_enter Tryz.func6, Tryz.ntmps6
  go_upto_region 1 with fail
  rw [HWW.out]
  go_wp2_with fail
  refine (awake_any _ (HT.out.below HB0.out)).mono ?_
  rintro e w1 ⟨rfl, hb⟩
  have HB := Lib.hid (below_two HB0.out hb)
  have HG := Lib.hid (HG0.out.below hb)
  have HX := Lib.hid (HX0.out.below hb)
  clear hb HB0 HG0 HX0 HWW
  go_wp2_with (first
    | (refine wp_loadS rfl 28 _ rfl w.heap.size rfl 28 (stL q s) _ HG.out Tryz.underlying28 rfl 15 infoSt rfl ?_)
    | (refine wp_loadS rfl 30 _ rfl (w.heap.size + 1) rfl 30 (suL x) _ HX.out Tryz.underlying30 rfl 5 infoSx rfl ?_))
  refine (Few12_any q s x w1 (HP.out.below HB.out)).mono ?_
  rintro e w2 ⟨⟨b, rfl, hf⟩, hb⟩
  have HF := Lib.hid hf
  have HB := Lib.hid (below_two HB.out hb)
  have HG := Lib.hid (HG.out.below hb)
  have HX := Lib.hid (HX.out.below hb)
  clear hb hf
  cases b with
  | false =>
    go_wp2
    go_ret
    exact ⟨rfl, HB.out⟩
  | true =>
    have hfs := HF.out rfl
    have HFS := Lib.hid hfs
    have HZ : Hid (SzD s) := Lib.hid ⟨by have := hfs.few.mem; omega, by have := hfs.few.data; omega, by have := hfs.few.spots; omega, by have := hfs.few.words; omega, by have := hfs.few.out; omega, fun y hy => by have := hfs.nms y hy; omega⟩
    clear hfs HF
    obtain ⟨s1, e1, b1, hd⟩ : ∃ a b c, doD x s 118 = (a, b, c) := ⟨_, _, _, rfl⟩
    obtain ⟨rfl, hst1, hst2⟩ := stays_118 hd
    have HD := Lib.hid hd
    have HLE : Hid (LeB s1 s 10) := Lib.hid (by have h := doD_le x s 118; rw [hd] at h; exact h)
    have HS1 := Lib.hid hst1
    have HS2 := Lib.hid hst2
    clear hd hst1 hst2
    go_wp2_with fail
    have HBA := Lib.hid (below_lit w2 (.cells #[.string ⟨#[39]⟩, .string ⟨#[67, 72, 65, 82]⟩, .string ⟨#[40]⟩, .string ⟨#[92]⟩, .string ⟨#[91]⟩, .string ⟨#[93]⟩] 9))
    obtain ⟨w3, hw3⟩ : ∃ v, w2.alloc (.cells #[.string ⟨#[39]⟩, .string ⟨#[67, 72, 65, 82]⟩, .string ⟨#[40]⟩, .string ⟨#[92]⟩, .string ⟨#[91]⟩, .string ⟨#[93]⟩] 9) = v := ⟨_, rfl⟩
    have HB := Lib.hid (below_two HB.out HBA.out)
    have HG := Lib.hid (HG.out.below HBA.out)
    have HX := Lib.hid (HX.out.below HBA.out)
    rw [hw3] at HB HG HX ⊢
    clear HBA hw3
    have HPW := Lib.hid (HP.out.below HB.out)
    go_upto_region 5 with fail
    go_cut [9, 10, 11] (fun a b c wx => ∃ (g : Nat) (q : Ad), a = .pointer (some ⟨g, 0, none⟩) ∧ b = .int .i64 (e1) ∧ c = .bool true ∧ Hid (Bx wx g 28 (stL q s1)) ∧ Hid (RdP wx q s1) ∧ Hid (Below w3.heap.size w3 wx))
    case first =>
      refine wp_region_facts (W := w3) [fVal (stV q s), fVal (suV x), fVal (.string ⟨#[39]⟩), fVal (.int .i64 118), fTup s1 [.int .i64 (e1), .bool true], fTup s1 [.int .i64 (e1), .bool true], fSt s1, fVal (.int .i64 (e1)), fVal (.bool true), fBox 18 28 (stL nilA zeroP), fSet 18 28 s1, fVal (.int .i64 (e1)), fVal (.bool true)] (fun | 3 => [2] | 4 => [0, 1, 3] | 5 => [4] | 6 => [5] | 7 => [5] | 8 => [5] | 10 => [9, 6] | 11 => [7] | 12 => [8] | _ => []) (fun | 10 => 19 | i => 2 * i) _ rfl rfl (by kernel_rfl) (by kernel_rfl) ?_ ?_ ?_
      · exact (.cons (stable_val _ _) (.cons (stable_val _ _) (.cons (stable_val _ _) (.cons (stable_val _ _) (.cons (stable_tup _ _ _) (.cons (stable_tup _ _ _) (.cons (stable_st _ _) (.cons (stable_val _ _) (.cons (stable_val _ _) (.cons (stable_box _ _ _ _) (.cons (stable_set _ _ _ _) (.cons (stable_val _ _) (.cons (stable_val _ _) AllStable.nil)))))))))))))
      · refine ⟨?_, ?_, ?_, ?_, ?_, ?_, ?_, ?_, ?_, ?_, ?_, ?_, ?_, trivial⟩
        · intro a γ v hj hu hd hf
          exact rg_load 28 _ rfl w.heap.size (hf 3 (by decide)) 28 (stL q s) _ (HG.out.below hj.below) Tryz.underlying28 rfl 15 infoSt rfl ⟨_, rfl, .quiet rfl⟩
        · intro a γ v hj hu hd hf
          exact rg_load 30 _ rfl (w.heap.size + 1) (hf 4 (by decide)) 30 (suL x) _ (HX.out.below hj.below) Tryz.underlying30 rfl 5 infoSx rfl ⟨_, rfl, .quiet rfl⟩
        · intro a γ v hj hu hd hf
          exact rg_move _ rfl _ (hf 8 (by decide)) ⟨_, rfl, .quiet rfl⟩
        · intro a γ v hj hu hd hf
          obtain ⟨_, e, rfl⟩ := hd 2 (by simp)
          refine rg_call 17 _ _ rfl #[.string ⟨#[39]⟩] (by simp [e 28 rfl]) (by go_simp) _ (Find_any ⟨#[39]⟩ 118 v (by decide +kernel) (by decide) (HT.out.below (below_two HB.out hj.below))) ?_
          rintro e w' ⟨rfl, hb⟩
          exact ⟨_, rfl, _, rfl, .grow hb rfl⟩
        · intro a γ v hj hu hd hf
          obtain ⟨x0, e0, rfl⟩ := hd 0 (by simp)
          obtain ⟨x1, e1', rfl⟩ := hd 1 (by simp)
          obtain ⟨x2, e2, rfl⟩ := hd 3 (by simp)
          refine rg_call 10 _ _ rfl #[stV q s, suV x, .int .i64 118] (by simp [e0 26 rfl, e1' 27 rfl, e2 29 rfl]) (by go_simp) _ (DoD_any 118 q s x s1 e1 true v HD.out (HPW.out.below hj.below) HFS.out.src HZ.out (HT.out.below (below_two HB.out hj.below))) ?_
          rintro e w' ⟨q', rfl, hres, hb⟩
          exact ⟨_, rfl, _, rfl, .grow hb ⟨q', rfl, .of_res hj (hj.lies_old HPW.out) hres⟩⟩
        · intro a γ v hj hu hd hf
          obtain ⟨x, e, q, rfl, hs⟩ := hd 4 (by simp)
          exact rg_move _ rfl _ (e 30 rfl) ⟨_, rfl, .quiet ⟨q, rfl, hs⟩⟩
        · intro a γ v hj hu hd hf
          obtain ⟨x, e, q, rfl, hs⟩ := hd 5 (by simp)
          exact rg_extract _ _ rfl _ (e 25 rfl) _ rfl ⟨_, rfl, .quiet ⟨q, rfl, hs⟩⟩
        · intro a γ v hj hu hd hf
          obtain ⟨x, e, q, rfl, hs⟩ := hd 5 (by simp)
          exact rg_extract _ _ rfl _ (e 25 rfl) _ rfl ⟨_, rfl, .quiet rfl⟩
        · intro a γ v hj hu hd hf
          obtain ⟨x, e, q, rfl, hs⟩ := hd 5 (by simp)
          exact rg_extract _ _ rfl _ (e 25 rfl) _ rfl ⟨_, rfl, .quiet rfl⟩
        · intro a γ v hj hu hd hf
          refine rg_alloc 28 rfl (stL nilA zeroP) (.agg (stL nilA zeroP).toArray) (by kernel_rfl) rfl ?_
          intro w' g hx hb h1 h2
          exact ⟨_, rfl, .box (by kernel_rfl) (by decide) hu hb h1 h2 hx⟩
        · intro a γ v hj hu hd hf
          obtain ⟨x1, e1, g, rfl, hg, hx⟩ := hd 9 (by simp)
          obtain ⟨x2, e2, q, rfl, hs⟩ := hd 6 (by simp)
          refine rg_store 28 _ _ rfl g (stL q s1) (e1 9 rfl) (e2 31 rfl) 28 _ (hx hu) 15 infoSt rfl rfl (stL_one q s1) ?_
          intro w' hx' hg'
          exact ⟨_, rfl, .set (k := 18) (by kernel_rfl) (by decide) rfl hg hu hg' ⟨q, GE.st (.set 18 g hg hu hg') hs, g, by rw [gset_other _ _ (by decide)]; exact hg, gset_same _ _ _, hx'⟩⟩
        · intro a γ v hj hu hd hf
          obtain ⟨x, e, rfl⟩ := hd 7 (by simp)
          exact rg_assign _ rfl _ (e 32 rfl) ⟨_, rfl, .quiet rfl⟩
        · intro a γ v hj hu hd hf
          obtain ⟨x, e, rfl⟩ := hd 8 (by simp)
          exact rg_assign _ rfl _ (e 33 rfl) ⟨_, rfl, .quiet rfl⟩
      · intro V γ v hj h
        obtain ⟨g, h8, hg, _⟩ := h 9 (by decide)
        obtain ⟨q', ⟨hr, _⟩, g', hg', _, hx⟩ := h 10 (by decide)
        have h10 : V 11 = .int .i64 (e1) := h 11 (by decide)
        have h11 : V 12 = .bool true := h 12 (by decide)
        simp only [List.map_cons, List.map_nil, putD, Act.put, List.setIfInBounds_toArray, List.set_cons_succ, List.set_cons_zero, Nat.reduceAdd, Nat.zero_add, h8, h10, h11]
        go_wp2_with fail
        go_meet
        rw [hg] at hg'
        cases hg'
        exact ⟨g, q', rfl, rfl, rfl, Lib.hid hx, Lib.hid hr, Lib.hid hj.below⟩
    case rest =>
      obtain ⟨g1, q1, rfl, rfl, rfl, HG1, HP1, HB1⟩ := hcut
      obtain ⟨W1, hW⟩ : ∃ W, W = wc := ⟨_, rfl⟩
      subst hW
      have HB := Lib.hid (below_two HB.out HB1.out)
      have HG := Lib.hid (HG.out.below HB1.out)
      clear HB1 HPW HX
      by_cases he : e1 = 0
      · obtain ⟨hback, hdat, hcmp⟩ := HS2.out he
        subst he
        obtain ⟨nd, hnd⟩ : ∃ n, s.data.length = n := ⟨_, rfl⟩
        have hndb : nd ≤ 40 := by rw [← hnd]; exact HFS.out.few.data
        have HBK := Lib.hid hback
        have HND := Lib.hid hnd
        have HDA := Lib.hid hdat
        have HCM := Lib.hid hcmp
        have d1 : W1.cell? ⟨g1, 1, none⟩ = some (.slice q1.d (nd + 1) q1.dc) := by have h := HG1.out.cell 1; rw [← show s1.data.length = nd + 1 by rw [hdat, hnd]]; exact h
        have a1 : W1.cell? ⟨w.heap.size, 1, none⟩ = some (.slice q.d nd q.dc) := by have h := HG.out.cell 1; rw [← HND.out]; exact h
        have hwd : IntKind.i64.wrap ((nd : Int) + 1) = (nd : Int) + 1 := IntWalk.i64_in _ (by omega)
        clear hback hnd hdat hcmp
        have HBL := Lib.hid (below_lit W1 (.cells (stL nilA zeroP).toArray 28))
        have HBN : Hid (Bx (W1.alloc (.cells (stL nilA zeroP).toArray 28)) W1.heap.size 28 (stL nilA zeroP)) := Lib.hid (Bx.new W1 _ _ _ _ rfl rfl)
        go_upto_region 11 with fail
        go_wp2_with (first
          | (refine wp_loadS rfl 28 _ rfl g1 rfl 28 (stL q1 s1) _ HG1.out Tryz.underlying28 rfl 15 infoSt rfl ?_)
          | (refine wp_storeS rfl 28 _ _ rfl W1.heap.size (stL q1 s1) rfl rfl 28 (stL nilA zeroP) HBN.out 15 infoSt rfl rfl (stL_one _ _) ?_))
        intro W2 hg5 hw5
        have HN2 : Hid (Below W1.heap.size W1 W2) := Lib.hid (below_grown HBL.out HBL.out.size hw5 (Nat.le_refl _))
        obtain ⟨g2, hg⟩ : ∃ g, W1.heap.size = g := ⟨_, rfl⟩
        have Hg2 : Hid (Bx W2 g2 28 (stL q1 s1)) := Lib.hid (by rw [← hg]; exact hg5)
        have hA2 : w.heap.size < g2 := by rw [← hg]; exact HG.out.lt
        have hG2 : g1 < g2 := by rw [← hg]; exact HG1.out.lt
        have hP2 : Lies q1 s1 (fun b => b < g2) := by rw [← hg]; exact HP1.out.lies
        have hPq : Lies q s (fun b => b < g2) := HP.out.lies.mono (fun b hb => by omega)
        rw [hg]
        have HB := Lib.hid (below_two HB.out HN2.out)
        have HG := Lib.hid (HG.out.below HN2.out)
        have HG1 := Lib.hid (HG1.out.below HN2.out)
        have HP1 := Lib.hid (HP1.out.below HN2.out)
        have HLP := Lib.hid (And.intro hP2 hPq)
        have a9 : W2.cell? ⟨w.heap.size, 9, none⟩ = some (.int .i64 s.pos) := HG.out.cell 9
        clear hg5 hw5 hg HBL HBN HN2 d1 a1 hP2 hPq
        go_wp2_with (refine wp_storeF rfl 3 _ _ rfl g2 9 _ rfl rfl rfl 28 _ Hg2.out 15 rfl (by decide) info1i ?_)
        intro W3 hg5 hw5
        have Hg3 : Hid (Bx W3 g2 28 ((stL q1 s1).set 9 (.int .i64 s.pos))) := Lib.hid hg5
        have HB3 := Lib.hid (below_grown HB.out HB.out.size hw5 (by omega))
        have HGa := Lib.hid (HG.out.grown hw5 (by omega))
        have HGb := Lib.hid (HG1.out.grown hw5 (by omega))
        have HPb := Lib.hid (HP1.out.grown HLP.out.1 hw5 (by omega))
        have a1 : W3.cell? ⟨w.heap.size, 1, none⟩ = some (.slice q.d nd q.dc) := by have h := HGa.out.cell 1; rw [← HND.out]; exact h
        clear hg5 hw5 a9
        go_wp2_with (refine wp_storeF rfl 23 _ _ rfl g2 1 _ rfl rfl rfl 28 _ Hg3.out 15 rfl (by decide) info1c ?_)
        intro W4 hg5 hw5
        have Hg4 : Hid (Bx W4 g2 28 (((stL q1 s1).set 9 (.int .i64 s.pos)).set 1 (.slice q.d nd q.dc))) := Lib.hid hg5
        have HB4 := Lib.hid (below_grown HB3.out HB3.out.size hw5 (by omega))
        have HGc := Lib.hid (HGa.out.grown hw5 (by omega))
        have HGd := Lib.hid (HGb.out.grown hw5 (by omega))
        have HPd := Lib.hid (HPb.out.grown HLP.out.1 hw5 (by omega))
        have a13 : W4.cell? ⟨w.heap.size, 13, none⟩ = some (.bool s.comp) := HGc.out.cell 13
        clear hg5 hw5 a1 HGa HGb HPb HB3 Hg3
        go_wp2_with (refine wp_storeF rfl 4 _ _ rfl g2 13 _ rfl rfl rfl 28 _ Hg4.out 15 rfl (by decide) info1b ?_)
        intro W5 hg5 hw5
        obtain ⟨qb, hqb⟩ : ∃ a : Ad, { q1 with d := q.d, dc := q.dc } = a := ⟨_, rfl⟩
        have Hg5 : Hid (Bx W5 g2 28 (stL qb s)) := Lib.hid (by
          have e : (((stL q1 s1).set 9 (.int .i64 s.pos)).set 1 (.slice q.d nd q.dc)).set 13 (.bool s.comp) = stL qb s := by
            rw [← hqb]
            conv => rhs; rw [← HBK.out]
            unfold stL
            simp only
            rw [HND.out]
            rfl
          rw [← e]
          exact hg5)
        have HB5 := Lib.hid (below_grown HB4.out HB4.out.size hw5 (by omega))
        have HGe := Lib.hid (HGc.out.grown hw5 (by omega))
        have HGf := Lib.hid (HGd.out.grown hw5 (by omega))
        have HPf := Lib.hid (HPd.out.grown HLP.out.1 hw5 (by omega))
        have HPB : Hid (RdP W5 qb s) := Lib.hid (by
          rw [← hqb]
          have h := ((HPf.out.withPos s.pos).withComp s.comp).withData (A := q.d) (c := q.dc) (m := s.data) (HP.out.below HB5.out).data
          have e : ({ { { s1 with pos := s.pos } with comp := s.comp } with data := s.data } : Ps) = s := HBK.out
          rw [e] at h
          exact h)
        clear hg5 hw5 hqb a13 HGc HGd HPd HB4 Hg4
        go_wp2_with (first
          | (refine wp_take rfl ?_; refine wp_loadS rfl 28 _ rfl g2 rfl 28 (stL qb s) _ Hg5.out Tryz.underlying28 rfl 15 infoSt rfl ?_)
          | (refine wp_take rfl ?_; refine wp_loadS rfl 28 _ rfl w.heap.size rfl 28 (stL q s) _ HGe.out Tryz.underlying28 rfl 15 infoSt rfl ?_))
        refine (Same_any qb q s W5 HPB.out (HP.out.below HB5.out) (by have := HFS.out.few.data; omega) (by have := HFS.out.few.ret; omega) (by have := HFS.out.few.ctl; omega) (by have := HFS.out.few.words; omega) (by have := HFS.out.few.spots; omega)).mono ?_
        rintro e u3 ⟨rfl, hb⟩
        have HBz := Lib.hid (below_two HB5.out hb)
        have HGz := Lib.hid (HGe.out.below hb)
        have HGy := Lib.hid (HGf.out.below hb)
        have d1 : u3.cell? ⟨g1, 1, none⟩ = some (.slice q1.d (nd + 1) q1.dc) := by have h := HGy.out.cell 1; rw [← show s1.data.length = nd + 1 by rw [HDA.out, HND.out]]; exact h
        have a1 : u3.cell? ⟨w.heap.size, 1, none⟩ = some (.slice q.d nd q.dc) := by have h := HGz.out.cell 1; rw [← HND.out]; exact h
        have d13 : u3.cell? ⟨g1, 13, none⟩ = some (.bool s.comp) := by have h := HGy.out.cell 13; rw [← HCM.out]; exact h
        have a13 : u3.cell? ⟨w.heap.size, 13, none⟩ = some (.bool s.comp) := HGz.out.cell 13
        clear hb
        go_wp2
        go_ret
        exact ⟨rfl, HBz.out⟩
      · have hz := HS1.out he
        subst hz
        go_wp2_with (refine wp_take rfl ?_; refine wp_loadS rfl 28 _ rfl g1 rfl 28 (stL q1 zeroP) _ HG1.out Tryz.underlying28 rfl 15 infoSt rfl ?_)
        refine (Same_is q1 nilA zeroP _ _ W1 rfl rfl HP1.out (RdP.zero W1) (by decide) (by decide) (by decide) (by decide) (by decide)).mono ?_
        rintro e u3 ⟨rfl, hb⟩
        have HBz := Lib.hid (below_two HB.out hb)
        clear hb
        go_wp2
        go_ret
        exact ⟨rfl, HBz.out⟩
set_option maxRecDepth 100000 in
set_option maxHeartbeats 8000000 in
theorem DefsStays1_walk (q : Ad) (s : Ps) (x : Sx) (n : Int) (hn : 0 ≤ n ∧ n < 256) (hrem : n.tmod 6 = 1) (w : World) (hp : RdP w q s) (hh : -9223372036854775808 ≤ s.here ∧ s.here ≤ 9223372036854775807) (ht : Tab w) :
    Calls Tryz.prog 6 #[stV q s, suV x, .int .u8 n] w fun e w' => e = .returned (.bool true) ∧ Below w.heap.size w w' := by
  have HN := Lib.hid hn
  have HP := Lib.hid hp
  have HT := Lib.hid ht
  have HH := Lib.hid hh
  have hB0 := below_two (below_lit w (.cells (stL q s).toArray 28)) (below_lit _ (.cells (suL x).toArray 30))
  have hS : Bx ((w.alloc (.cells (stL q s).toArray 28)).alloc (.cells (suL x).toArray 30)) w.heap.size 28 (stL q s) := (Bx.new w _ _ _ _ rfl rfl).alloc _
  have hX : Bx ((w.alloc (.cells (stL q s).toArray 28)).alloc (.cells (suL x).toArray 30)) (w.heap.size + 1) 30 (suL x) := Bx.new _ _ _ _ _ (by simp) rfl
  obtain ⟨W, hW⟩ : ∃ W, (w.alloc (.cells #[.slice q.m s.mem.length q.mc, .slice q.d s.data.length q.dc, .slice q.r s.ret.length q.rc, .slice q.c s.ctl.length q.cc, .slice q.w s.words.length q.wc, .slice q.s s.spots.length q.sc, .slice q.o s.out.length q.oc, .int .i64 s.ip, .int .i64 s.here, .int .i64 s.pos, .int .i64 s.tok, .int .i64 s.inp, .int .i64 s.err, .bool s.comp, .bool s.halt] 28)).alloc (.cells #[.string x.src, .slice x.iA x.iN x.iC, .int .i64 x.size, .int .i64 x.depth, .int .i64 x.room] 30) = W := ⟨_, rfl⟩
  have HB0 : Hid (Below w.heap.size w W) := Lib.hid (by rw [← hW]; exact hB0)
  have HG0 : Hid (Bx W w.heap.size 28 (stL q s)) := Lib.hid (by rw [← hW]; exact hS)
  have HX0 : Hid (Bx W (w.heap.size + 1) 30 (suL x)) := Lib.hid (by rw [← hW]; exact hX)
  have HWW := Lib.hid hW
  clear hp ht hh hB0 hS hX hW
  rw [stV_eq q s, suV_eq x]
  go_enter Tryz.func6, Tryz.ntmps6
  go_upto_region 1 with fail
  rw [HWW.out]
  go_wp2_with fail
  refine (awake_any _ (HT.out.below HB0.out)).mono ?_
  rintro e w1 ⟨rfl, hb⟩
  have HB := Lib.hid (below_two HB0.out hb)
  have HG := Lib.hid (HG0.out.below hb)
  have HX := Lib.hid (HX0.out.below hb)
  clear hb HB0 HG0 HX0 HWW
  go_wp2_with (first
    | (refine wp_loadS rfl 28 _ rfl w.heap.size rfl 28 (stL q s) _ HG.out Tryz.underlying28 rfl 15 infoSt rfl ?_)
    | (refine wp_loadS rfl 30 _ rfl (w.heap.size + 1) rfl 30 (suL x) _ HX.out Tryz.underlying30 rfl 5 infoSx rfl ?_))
  refine (Few12_any q s x w1 (HP.out.below HB.out)).mono ?_
  rintro e w2 ⟨⟨b, rfl, hf⟩, hb⟩
  have HF := Lib.hid hf
  have HB := Lib.hid (below_two HB.out hb)
  have HG := Lib.hid (HG.out.below hb)
  have HX := Lib.hid (HX.out.below hb)
  clear hb hf
  cases b with
  | false =>
    go_wp2
    go_ret
    exact ⟨rfl, HB.out⟩
  | true =>
    have hfs := HF.out rfl
    have HFS := Lib.hid hfs
    have HZ : Hid (SzD s) := Lib.hid ⟨by have := hfs.few.mem; omega, by have := hfs.few.data; omega, by have := hfs.few.spots; omega, by have := hfs.few.words; omega, by have := hfs.few.out; omega, fun y hy => by have := hfs.nms y hy; omega⟩
    clear hfs HF
    obtain ⟨s1, e1, b1, hd⟩ : ∃ a b c, doD x s 125 = (a, b, c) := ⟨_, _, _, rfl⟩
    obtain ⟨rfl, hst1, hst2⟩ := stays_125 hd
    have HD := Lib.hid hd
    have HLE : Hid (LeB s1 s 10) := Lib.hid (by have h := doD_le x s 125; rw [hd] at h; exact h)
    have HS1 := Lib.hid hst1
    have HS2 := Lib.hid hst2
    clear hd hst1 hst2
    go_wp2_with fail
    have HBA := Lib.hid (below_lit w2 (.cells #[.string ⟨#[39]⟩, .string ⟨#[67, 72, 65, 82]⟩, .string ⟨#[40]⟩, .string ⟨#[92]⟩, .string ⟨#[91]⟩, .string ⟨#[93]⟩] 9))
    obtain ⟨w3, hw3⟩ : ∃ v, w2.alloc (.cells #[.string ⟨#[39]⟩, .string ⟨#[67, 72, 65, 82]⟩, .string ⟨#[40]⟩, .string ⟨#[92]⟩, .string ⟨#[91]⟩, .string ⟨#[93]⟩] 9) = v := ⟨_, rfl⟩
    have HB := Lib.hid (below_two HB.out HBA.out)
    have HG := Lib.hid (HG.out.below HBA.out)
    have HX := Lib.hid (HX.out.below HBA.out)
    rw [hw3] at HB HG HX ⊢
    clear HBA hw3
    have HPW := Lib.hid (HP.out.below HB.out)
    go_upto_region 5 with fail
    go_cut [9, 10, 11] (fun a b c wx => ∃ (g : Nat) (q : Ad), a = .pointer (some ⟨g, 0, none⟩) ∧ b = .int .i64 (e1) ∧ c = .bool true ∧ Hid (Bx wx g 28 (stL q s1)) ∧ Hid (RdP wx q s1) ∧ Hid (Below w3.heap.size w3 wx))
    case first =>
      refine wp_region_facts (W := w3) [fVal (stV q s), fVal (suV x), fVal (.string ⟨#[67, 72, 65, 82]⟩), fVal (.int .i64 125), fTup s1 [.int .i64 (e1), .bool true], fTup s1 [.int .i64 (e1), .bool true], fSt s1, fVal (.int .i64 (e1)), fVal (.bool true), fBox 18 28 (stL nilA zeroP), fSet 18 28 s1, fVal (.int .i64 (e1)), fVal (.bool true)] (fun | 3 => [2] | 4 => [0, 1, 3] | 5 => [4] | 6 => [5] | 7 => [5] | 8 => [5] | 10 => [9, 6] | 11 => [7] | 12 => [8] | _ => []) (fun | 10 => 19 | i => 2 * i) _ rfl rfl (by kernel_rfl) (by kernel_rfl) ?_ ?_ ?_
      · exact (.cons (stable_val _ _) (.cons (stable_val _ _) (.cons (stable_val _ _) (.cons (stable_val _ _) (.cons (stable_tup _ _ _) (.cons (stable_tup _ _ _) (.cons (stable_st _ _) (.cons (stable_val _ _) (.cons (stable_val _ _) (.cons (stable_box _ _ _ _) (.cons (stable_set _ _ _ _) (.cons (stable_val _ _) (.cons (stable_val _ _) AllStable.nil)))))))))))))
      · refine ⟨?_, ?_, ?_, ?_, ?_, ?_, ?_, ?_, ?_, ?_, ?_, ?_, ?_, trivial⟩
        · intro a γ v hj hu hd hf
          exact rg_load 28 _ rfl w.heap.size (hf 3 (by decide)) 28 (stL q s) _ (HG.out.below hj.below) Tryz.underlying28 rfl 15 infoSt rfl ⟨_, rfl, .quiet rfl⟩
        · intro a γ v hj hu hd hf
          exact rg_load 30 _ rfl (w.heap.size + 1) (hf 4 (by decide)) 30 (suL x) _ (HX.out.below hj.below) Tryz.underlying30 rfl 5 infoSx rfl ⟨_, rfl, .quiet rfl⟩
        · intro a γ v hj hu hd hf
          exact rg_move _ rfl _ (hf 8 (by decide)) ⟨_, rfl, .quiet rfl⟩
        · intro a γ v hj hu hd hf
          obtain ⟨_, e, rfl⟩ := hd 2 (by simp)
          refine rg_call 17 _ _ rfl #[.string ⟨#[67, 72, 65, 82]⟩] (by simp [e 28 rfl]) (by go_simp) _ (Find_any ⟨#[67, 72, 65, 82]⟩ 125 v (by decide +kernel) (by decide) (HT.out.below (below_two HB.out hj.below))) ?_
          rintro e w' ⟨rfl, hb⟩
          exact ⟨_, rfl, _, rfl, .grow hb rfl⟩
        · intro a γ v hj hu hd hf
          obtain ⟨x0, e0, rfl⟩ := hd 0 (by simp)
          obtain ⟨x1, e1', rfl⟩ := hd 1 (by simp)
          obtain ⟨x2, e2, rfl⟩ := hd 3 (by simp)
          refine rg_call 10 _ _ rfl #[stV q s, suV x, .int .i64 125] (by simp [e0 26 rfl, e1' 27 rfl, e2 29 rfl]) (by go_simp) _ (DoD_any 125 q s x s1 e1 true v HD.out (HPW.out.below hj.below) HFS.out.src HZ.out (HT.out.below (below_two HB.out hj.below))) ?_
          rintro e w' ⟨q', rfl, hres, hb⟩
          exact ⟨_, rfl, _, rfl, .grow hb ⟨q', rfl, .of_res hj (hj.lies_old HPW.out) hres⟩⟩
        · intro a γ v hj hu hd hf
          obtain ⟨x, e, q, rfl, hs⟩ := hd 4 (by simp)
          exact rg_move _ rfl _ (e 30 rfl) ⟨_, rfl, .quiet ⟨q, rfl, hs⟩⟩
        · intro a γ v hj hu hd hf
          obtain ⟨x, e, q, rfl, hs⟩ := hd 5 (by simp)
          exact rg_extract _ _ rfl _ (e 25 rfl) _ rfl ⟨_, rfl, .quiet ⟨q, rfl, hs⟩⟩
        · intro a γ v hj hu hd hf
          obtain ⟨x, e, q, rfl, hs⟩ := hd 5 (by simp)
          exact rg_extract _ _ rfl _ (e 25 rfl) _ rfl ⟨_, rfl, .quiet rfl⟩
        · intro a γ v hj hu hd hf
          obtain ⟨x, e, q, rfl, hs⟩ := hd 5 (by simp)
          exact rg_extract _ _ rfl _ (e 25 rfl) _ rfl ⟨_, rfl, .quiet rfl⟩
        · intro a γ v hj hu hd hf
          refine rg_alloc 28 rfl (stL nilA zeroP) (.agg (stL nilA zeroP).toArray) (by kernel_rfl) rfl ?_
          intro w' g hx hb h1 h2
          exact ⟨_, rfl, .box (by kernel_rfl) (by decide) hu hb h1 h2 hx⟩
        · intro a γ v hj hu hd hf
          obtain ⟨x1, e1, g, rfl, hg, hx⟩ := hd 9 (by simp)
          obtain ⟨x2, e2, q, rfl, hs⟩ := hd 6 (by simp)
          refine rg_store 28 _ _ rfl g (stL q s1) (e1 9 rfl) (e2 31 rfl) 28 _ (hx hu) 15 infoSt rfl rfl (stL_one q s1) ?_
          intro w' hx' hg'
          exact ⟨_, rfl, .set (k := 18) (by kernel_rfl) (by decide) rfl hg hu hg' ⟨q, GE.st (.set 18 g hg hu hg') hs, g, by rw [gset_other _ _ (by decide)]; exact hg, gset_same _ _ _, hx'⟩⟩
        · intro a γ v hj hu hd hf
          obtain ⟨x, e, rfl⟩ := hd 7 (by simp)
          exact rg_assign _ rfl _ (e 32 rfl) ⟨_, rfl, .quiet rfl⟩
        · intro a γ v hj hu hd hf
          obtain ⟨x, e, rfl⟩ := hd 8 (by simp)
          exact rg_assign _ rfl _ (e 33 rfl) ⟨_, rfl, .quiet rfl⟩
      · intro V γ v hj h
        obtain ⟨g, h8, hg, _⟩ := h 9 (by decide)
        obtain ⟨q', ⟨hr, _⟩, g', hg', _, hx⟩ := h 10 (by decide)
        have h10 : V 11 = .int .i64 (e1) := h 11 (by decide)
        have h11 : V 12 = .bool true := h 12 (by decide)
        simp only [List.map_cons, List.map_nil, putD, Act.put, List.setIfInBounds_toArray, List.set_cons_succ, List.set_cons_zero, Nat.reduceAdd, Nat.zero_add, h8, h10, h11]
        go_wp2_with fail
        go_meet
        rw [hg] at hg'
        cases hg'
        exact ⟨g, q', rfl, rfl, rfl, Lib.hid hx, Lib.hid hr, Lib.hid hj.below⟩
    case rest =>
      obtain ⟨g1, q1, rfl, rfl, rfl, HG1, HP1, HB1⟩ := hcut
      obtain ⟨W1, hW⟩ : ∃ W, W = wc := ⟨_, rfl⟩
      subst hW
      have HB := Lib.hid (below_two HB.out HB1.out)
      have HG := Lib.hid (HG.out.below HB1.out)
      clear HB1 HPW HX
      by_cases he : e1 = 0
      · obtain ⟨hback, hdat, hcmp⟩ := HS2.out he
        subst he
        obtain ⟨nd, hnd⟩ : ∃ n, s.data.length = n := ⟨_, rfl⟩
        have hndb : nd ≤ 40 := by rw [← hnd]; exact HFS.out.few.data
        have HBK := Lib.hid hback
        have HND := Lib.hid hnd
        have HDA := Lib.hid hdat
        have HCM := Lib.hid hcmp
        have d1 : W1.cell? ⟨g1, 1, none⟩ = some (.slice q1.d (nd + 1) q1.dc) := by have h := HG1.out.cell 1; rw [← show s1.data.length = nd + 1 by rw [hdat, hnd]]; exact h
        have a1 : W1.cell? ⟨w.heap.size, 1, none⟩ = some (.slice q.d nd q.dc) := by have h := HG.out.cell 1; rw [← HND.out]; exact h
        have hwd : IntKind.i64.wrap ((nd : Int) + 1) = (nd : Int) + 1 := IntWalk.i64_in _ (by omega)
        clear hback hnd hdat hcmp
        have HBL := Lib.hid (below_lit W1 (.cells (stL nilA zeroP).toArray 28))
        have HBN : Hid (Bx (W1.alloc (.cells (stL nilA zeroP).toArray 28)) W1.heap.size 28 (stL nilA zeroP)) := Lib.hid (Bx.new W1 _ _ _ _ rfl rfl)
        go_upto_region 11 with fail
        go_wp2_with (first
          | (refine wp_loadS rfl 28 _ rfl g1 rfl 28 (stL q1 s1) _ HG1.out Tryz.underlying28 rfl 15 infoSt rfl ?_)
          | (refine wp_storeS rfl 28 _ _ rfl W1.heap.size (stL q1 s1) rfl rfl 28 (stL nilA zeroP) HBN.out 15 infoSt rfl rfl (stL_one _ _) ?_))
        intro W2 hg5 hw5
        have HN2 : Hid (Below W1.heap.size W1 W2) := Lib.hid (below_grown HBL.out HBL.out.size hw5 (Nat.le_refl _))
        obtain ⟨g2, hg⟩ : ∃ g, W1.heap.size = g := ⟨_, rfl⟩
        have Hg2 : Hid (Bx W2 g2 28 (stL q1 s1)) := Lib.hid (by rw [← hg]; exact hg5)
        have hA2 : w.heap.size < g2 := by rw [← hg]; exact HG.out.lt
        have hG2 : g1 < g2 := by rw [← hg]; exact HG1.out.lt
        have hP2 : Lies q1 s1 (fun b => b < g2) := by rw [← hg]; exact HP1.out.lies
        have hPq : Lies q s (fun b => b < g2) := HP.out.lies.mono (fun b hb => by omega)
        rw [hg]
        have HB := Lib.hid (below_two HB.out HN2.out)
        have HG := Lib.hid (HG.out.below HN2.out)
        have HG1 := Lib.hid (HG1.out.below HN2.out)
        have HP1 := Lib.hid (HP1.out.below HN2.out)
        have HLP := Lib.hid (And.intro hP2 hPq)
        have a9 : W2.cell? ⟨w.heap.size, 9, none⟩ = some (.int .i64 s.pos) := HG.out.cell 9
        clear hg5 hw5 hg HBL HBN HN2 d1 a1 hP2 hPq
        go_wp2_with (refine wp_storeF rfl 3 _ _ rfl g2 9 _ rfl rfl rfl 28 _ Hg2.out 15 rfl (by decide) info1i ?_)
        intro W3 hg5 hw5
        have Hg3 : Hid (Bx W3 g2 28 ((stL q1 s1).set 9 (.int .i64 s.pos))) := Lib.hid hg5
        have HB3 := Lib.hid (below_grown HB.out HB.out.size hw5 (by omega))
        have HGa := Lib.hid (HG.out.grown hw5 (by omega))
        have HGb := Lib.hid (HG1.out.grown hw5 (by omega))
        have HPb := Lib.hid (HP1.out.grown HLP.out.1 hw5 (by omega))
        have a1 : W3.cell? ⟨w.heap.size, 1, none⟩ = some (.slice q.d nd q.dc) := by have h := HGa.out.cell 1; rw [← HND.out]; exact h
        clear hg5 hw5 a9
        go_wp2_with (refine wp_storeF rfl 23 _ _ rfl g2 1 _ rfl rfl rfl 28 _ Hg3.out 15 rfl (by decide) info1c ?_)
        intro W4 hg5 hw5
        have Hg4 : Hid (Bx W4 g2 28 (((stL q1 s1).set 9 (.int .i64 s.pos)).set 1 (.slice q.d nd q.dc))) := Lib.hid hg5
        have HB4 := Lib.hid (below_grown HB3.out HB3.out.size hw5 (by omega))
        have HGc := Lib.hid (HGa.out.grown hw5 (by omega))
        have HGd := Lib.hid (HGb.out.grown hw5 (by omega))
        have HPd := Lib.hid (HPb.out.grown HLP.out.1 hw5 (by omega))
        have a13 : W4.cell? ⟨w.heap.size, 13, none⟩ = some (.bool s.comp) := HGc.out.cell 13
        clear hg5 hw5 a1 HGa HGb HPb HB3 Hg3
        go_wp2_with (refine wp_storeF rfl 4 _ _ rfl g2 13 _ rfl rfl rfl 28 _ Hg4.out 15 rfl (by decide) info1b ?_)
        intro W5 hg5 hw5
        obtain ⟨qb, hqb⟩ : ∃ a : Ad, { q1 with d := q.d, dc := q.dc } = a := ⟨_, rfl⟩
        have Hg5 : Hid (Bx W5 g2 28 (stL qb s)) := Lib.hid (by
          have e : (((stL q1 s1).set 9 (.int .i64 s.pos)).set 1 (.slice q.d nd q.dc)).set 13 (.bool s.comp) = stL qb s := by
            rw [← hqb]
            conv => rhs; rw [← HBK.out]
            unfold stL
            simp only
            rw [HND.out]
            rfl
          rw [← e]
          exact hg5)
        have HB5 := Lib.hid (below_grown HB4.out HB4.out.size hw5 (by omega))
        have HGe := Lib.hid (HGc.out.grown hw5 (by omega))
        have HGf := Lib.hid (HGd.out.grown hw5 (by omega))
        have HPf := Lib.hid (HPd.out.grown HLP.out.1 hw5 (by omega))
        have HPB : Hid (RdP W5 qb s) := Lib.hid (by
          rw [← hqb]
          have h := ((HPf.out.withPos s.pos).withComp s.comp).withData (A := q.d) (c := q.dc) (m := s.data) (HP.out.below HB5.out).data
          have e : ({ { { s1 with pos := s.pos } with comp := s.comp } with data := s.data } : Ps) = s := HBK.out
          rw [e] at h
          exact h)
        clear hg5 hw5 hqb a13 HGc HGd HPd HB4 Hg4
        go_wp2_with (first
          | (refine wp_take rfl ?_; refine wp_loadS rfl 28 _ rfl g2 rfl 28 (stL qb s) _ Hg5.out Tryz.underlying28 rfl 15 infoSt rfl ?_)
          | (refine wp_take rfl ?_; refine wp_loadS rfl 28 _ rfl w.heap.size rfl 28 (stL q s) _ HGe.out Tryz.underlying28 rfl 15 infoSt rfl ?_))
        refine (Same_any qb q s W5 HPB.out (HP.out.below HB5.out) (by have := HFS.out.few.data; omega) (by have := HFS.out.few.ret; omega) (by have := HFS.out.few.ctl; omega) (by have := HFS.out.few.words; omega) (by have := HFS.out.few.spots; omega)).mono ?_
        rintro e u3 ⟨rfl, hb⟩
        have HBz := Lib.hid (below_two HB5.out hb)
        have HGz := Lib.hid (HGe.out.below hb)
        have HGy := Lib.hid (HGf.out.below hb)
        have d1 : u3.cell? ⟨g1, 1, none⟩ = some (.slice q1.d (nd + 1) q1.dc) := by have h := HGy.out.cell 1; rw [← show s1.data.length = nd + 1 by rw [HDA.out, HND.out]]; exact h
        have a1 : u3.cell? ⟨w.heap.size, 1, none⟩ = some (.slice q.d nd q.dc) := by have h := HGz.out.cell 1; rw [← HND.out]; exact h
        have d13 : u3.cell? ⟨g1, 13, none⟩ = some (.bool s.comp) := by have h := HGy.out.cell 13; rw [← HCM.out]; exact h
        have a13 : u3.cell? ⟨w.heap.size, 13, none⟩ = some (.bool s.comp) := HGz.out.cell 13
        clear hb
        go_wp2
        go_ret
        exact ⟨rfl, HBz.out⟩
      · have hz := HS1.out he
        subst hz
        go_wp2_with (refine wp_take rfl ?_; refine wp_loadS rfl 28 _ rfl g1 rfl 28 (stL q1 zeroP) _ HG1.out Tryz.underlying28 rfl 15 infoSt rfl ?_)
        refine (Same_is q1 nilA zeroP _ _ W1 rfl rfl HP1.out (RdP.zero W1) (by decide) (by decide) (by decide) (by decide) (by decide)).mono ?_
        rintro e u3 ⟨rfl, hb⟩
        have HBz := Lib.hid (below_two HB.out hb)
        clear hb
        go_wp2
        go_ret
        exact ⟨rfl, HBz.out⟩
set_option maxRecDepth 100000 in
set_option maxHeartbeats 8000000 in
theorem DefsStays2_walk (q : Ad) (s : Ps) (x : Sx) (n : Int) (hn : 0 ≤ n ∧ n < 256) (hrem : n.tmod 6 = 2) (w : World) (hp : RdP w q s) (hh : -9223372036854775808 ≤ s.here ∧ s.here ≤ 9223372036854775807) (ht : Tab w) :
    Calls Tryz.prog 6 #[stV q s, suV x, .int .u8 n] w fun e w' => e = .returned (.bool true) ∧ Below w.heap.size w w' := by
  have HN := Lib.hid hn
  have HP := Lib.hid hp
  have HT := Lib.hid ht
  have HH := Lib.hid hh
  have hB0 := below_two (below_lit w (.cells (stL q s).toArray 28)) (below_lit _ (.cells (suL x).toArray 30))
  have hS : Bx ((w.alloc (.cells (stL q s).toArray 28)).alloc (.cells (suL x).toArray 30)) w.heap.size 28 (stL q s) := (Bx.new w _ _ _ _ rfl rfl).alloc _
  have hX : Bx ((w.alloc (.cells (stL q s).toArray 28)).alloc (.cells (suL x).toArray 30)) (w.heap.size + 1) 30 (suL x) := Bx.new _ _ _ _ _ (by simp) rfl
  obtain ⟨W, hW⟩ : ∃ W, (w.alloc (.cells #[.slice q.m s.mem.length q.mc, .slice q.d s.data.length q.dc, .slice q.r s.ret.length q.rc, .slice q.c s.ctl.length q.cc, .slice q.w s.words.length q.wc, .slice q.s s.spots.length q.sc, .slice q.o s.out.length q.oc, .int .i64 s.ip, .int .i64 s.here, .int .i64 s.pos, .int .i64 s.tok, .int .i64 s.inp, .int .i64 s.err, .bool s.comp, .bool s.halt] 28)).alloc (.cells #[.string x.src, .slice x.iA x.iN x.iC, .int .i64 x.size, .int .i64 x.depth, .int .i64 x.room] 30) = W := ⟨_, rfl⟩
  have HB0 : Hid (Below w.heap.size w W) := Lib.hid (by rw [← hW]; exact hB0)
  have HG0 : Hid (Bx W w.heap.size 28 (stL q s)) := Lib.hid (by rw [← hW]; exact hS)
  have HX0 : Hid (Bx W (w.heap.size + 1) 30 (suL x)) := Lib.hid (by rw [← hW]; exact hX)
  have HWW := Lib.hid hW
  clear hp ht hh hB0 hS hX hW
  rw [stV_eq q s, suV_eq x]
  go_enter Tryz.func6, Tryz.ntmps6
  go_upto_region 1 with fail
  rw [HWW.out]
  go_wp2_with fail
  refine (awake_any _ (HT.out.below HB0.out)).mono ?_
  rintro e w1 ⟨rfl, hb⟩
  have HB := Lib.hid (below_two HB0.out hb)
  have HG := Lib.hid (HG0.out.below hb)
  have HX := Lib.hid (HX0.out.below hb)
  clear hb HB0 HG0 HX0 HWW
  go_wp2_with (first
    | (refine wp_loadS rfl 28 _ rfl w.heap.size rfl 28 (stL q s) _ HG.out Tryz.underlying28 rfl 15 infoSt rfl ?_)
    | (refine wp_loadS rfl 30 _ rfl (w.heap.size + 1) rfl 30 (suL x) _ HX.out Tryz.underlying30 rfl 5 infoSx rfl ?_))
  refine (Few12_any q s x w1 (HP.out.below HB.out)).mono ?_
  rintro e w2 ⟨⟨b, rfl, hf⟩, hb⟩
  have HF := Lib.hid hf
  have HB := Lib.hid (below_two HB.out hb)
  have HG := Lib.hid (HG.out.below hb)
  have HX := Lib.hid (HX.out.below hb)
  clear hb hf
  cases b with
  | false =>
    go_wp2
    go_ret
    exact ⟨rfl, HB.out⟩
  | true =>
    have hfs := HF.out rfl
    have HFS := Lib.hid hfs
    have HZ : Hid (SzD s) := Lib.hid ⟨by have := hfs.few.mem; omega, by have := hfs.few.data; omega, by have := hfs.few.spots; omega, by have := hfs.few.words; omega, by have := hfs.few.out; omega, fun y hy => by have := hfs.nms y hy; omega⟩
    clear hfs HF
    obtain ⟨s1, e1, b1, hd⟩ : ∃ a b c, doD x s 127 = (a, b, c) := ⟨_, _, _, rfl⟩
    obtain ⟨rfl, hst1, hst2⟩ := stays_127 hd
    have HD := Lib.hid hd
    have HLE : Hid (LeB s1 s 10) := Lib.hid (by have h := doD_le x s 127; rw [hd] at h; exact h)
    have HS1 := Lib.hid hst1
    have HS2 := Lib.hid hst2
    clear hd hst1 hst2
    go_wp2_with fail
    have HBA := Lib.hid (below_lit w2 (.cells #[.string ⟨#[39]⟩, .string ⟨#[67, 72, 65, 82]⟩, .string ⟨#[40]⟩, .string ⟨#[92]⟩, .string ⟨#[91]⟩, .string ⟨#[93]⟩] 9))
    obtain ⟨w3, hw3⟩ : ∃ v, w2.alloc (.cells #[.string ⟨#[39]⟩, .string ⟨#[67, 72, 65, 82]⟩, .string ⟨#[40]⟩, .string ⟨#[92]⟩, .string ⟨#[91]⟩, .string ⟨#[93]⟩] 9) = v := ⟨_, rfl⟩
    have HB := Lib.hid (below_two HB.out HBA.out)
    have HG := Lib.hid (HG.out.below HBA.out)
    have HX := Lib.hid (HX.out.below HBA.out)
    rw [hw3] at HB HG HX ⊢
    clear HBA hw3
    have HPW := Lib.hid (HP.out.below HB.out)
    go_upto_region 5 with fail
    go_cut [9, 10, 11] (fun a b c wx => ∃ (g : Nat) (q : Ad), a = .pointer (some ⟨g, 0, none⟩) ∧ b = .int .i64 (e1) ∧ c = .bool true ∧ Hid (Bx wx g 28 (stL q s1)) ∧ Hid (RdP wx q s1) ∧ Hid (Below w3.heap.size w3 wx))
    case first =>
      refine wp_region_facts (W := w3) [fVal (stV q s), fVal (suV x), fVal (.string ⟨#[40]⟩), fVal (.int .i64 127), fTup s1 [.int .i64 (e1), .bool true], fTup s1 [.int .i64 (e1), .bool true], fSt s1, fVal (.int .i64 (e1)), fVal (.bool true), fBox 18 28 (stL nilA zeroP), fSet 18 28 s1, fVal (.int .i64 (e1)), fVal (.bool true)] (fun | 3 => [2] | 4 => [0, 1, 3] | 5 => [4] | 6 => [5] | 7 => [5] | 8 => [5] | 10 => [9, 6] | 11 => [7] | 12 => [8] | _ => []) (fun | 10 => 19 | i => 2 * i) _ rfl rfl (by kernel_rfl) (by kernel_rfl) ?_ ?_ ?_
      · exact (.cons (stable_val _ _) (.cons (stable_val _ _) (.cons (stable_val _ _) (.cons (stable_val _ _) (.cons (stable_tup _ _ _) (.cons (stable_tup _ _ _) (.cons (stable_st _ _) (.cons (stable_val _ _) (.cons (stable_val _ _) (.cons (stable_box _ _ _ _) (.cons (stable_set _ _ _ _) (.cons (stable_val _ _) (.cons (stable_val _ _) AllStable.nil)))))))))))))
      · refine ⟨?_, ?_, ?_, ?_, ?_, ?_, ?_, ?_, ?_, ?_, ?_, ?_, ?_, trivial⟩
        · intro a γ v hj hu hd hf
          exact rg_load 28 _ rfl w.heap.size (hf 3 (by decide)) 28 (stL q s) _ (HG.out.below hj.below) Tryz.underlying28 rfl 15 infoSt rfl ⟨_, rfl, .quiet rfl⟩
        · intro a γ v hj hu hd hf
          exact rg_load 30 _ rfl (w.heap.size + 1) (hf 4 (by decide)) 30 (suL x) _ (HX.out.below hj.below) Tryz.underlying30 rfl 5 infoSx rfl ⟨_, rfl, .quiet rfl⟩
        · intro a γ v hj hu hd hf
          exact rg_move _ rfl _ (hf 8 (by decide)) ⟨_, rfl, .quiet rfl⟩
        · intro a γ v hj hu hd hf
          obtain ⟨_, e, rfl⟩ := hd 2 (by simp)
          refine rg_call 17 _ _ rfl #[.string ⟨#[40]⟩] (by simp [e 28 rfl]) (by go_simp) _ (Find_any ⟨#[40]⟩ 127 v (by decide +kernel) (by decide) (HT.out.below (below_two HB.out hj.below))) ?_
          rintro e w' ⟨rfl, hb⟩
          exact ⟨_, rfl, _, rfl, .grow hb rfl⟩
        · intro a γ v hj hu hd hf
          obtain ⟨x0, e0, rfl⟩ := hd 0 (by simp)
          obtain ⟨x1, e1', rfl⟩ := hd 1 (by simp)
          obtain ⟨x2, e2, rfl⟩ := hd 3 (by simp)
          refine rg_call 10 _ _ rfl #[stV q s, suV x, .int .i64 127] (by simp [e0 26 rfl, e1' 27 rfl, e2 29 rfl]) (by go_simp) _ (DoD_any 127 q s x s1 e1 true v HD.out (HPW.out.below hj.below) HFS.out.src HZ.out (HT.out.below (below_two HB.out hj.below))) ?_
          rintro e w' ⟨q', rfl, hres, hb⟩
          exact ⟨_, rfl, _, rfl, .grow hb ⟨q', rfl, .of_res hj (hj.lies_old HPW.out) hres⟩⟩
        · intro a γ v hj hu hd hf
          obtain ⟨x, e, q, rfl, hs⟩ := hd 4 (by simp)
          exact rg_move _ rfl _ (e 30 rfl) ⟨_, rfl, .quiet ⟨q, rfl, hs⟩⟩
        · intro a γ v hj hu hd hf
          obtain ⟨x, e, q, rfl, hs⟩ := hd 5 (by simp)
          exact rg_extract _ _ rfl _ (e 25 rfl) _ rfl ⟨_, rfl, .quiet ⟨q, rfl, hs⟩⟩
        · intro a γ v hj hu hd hf
          obtain ⟨x, e, q, rfl, hs⟩ := hd 5 (by simp)
          exact rg_extract _ _ rfl _ (e 25 rfl) _ rfl ⟨_, rfl, .quiet rfl⟩
        · intro a γ v hj hu hd hf
          obtain ⟨x, e, q, rfl, hs⟩ := hd 5 (by simp)
          exact rg_extract _ _ rfl _ (e 25 rfl) _ rfl ⟨_, rfl, .quiet rfl⟩
        · intro a γ v hj hu hd hf
          refine rg_alloc 28 rfl (stL nilA zeroP) (.agg (stL nilA zeroP).toArray) (by kernel_rfl) rfl ?_
          intro w' g hx hb h1 h2
          exact ⟨_, rfl, .box (by kernel_rfl) (by decide) hu hb h1 h2 hx⟩
        · intro a γ v hj hu hd hf
          obtain ⟨x1, e1, g, rfl, hg, hx⟩ := hd 9 (by simp)
          obtain ⟨x2, e2, q, rfl, hs⟩ := hd 6 (by simp)
          refine rg_store 28 _ _ rfl g (stL q s1) (e1 9 rfl) (e2 31 rfl) 28 _ (hx hu) 15 infoSt rfl rfl (stL_one q s1) ?_
          intro w' hx' hg'
          exact ⟨_, rfl, .set (k := 18) (by kernel_rfl) (by decide) rfl hg hu hg' ⟨q, GE.st (.set 18 g hg hu hg') hs, g, by rw [gset_other _ _ (by decide)]; exact hg, gset_same _ _ _, hx'⟩⟩
        · intro a γ v hj hu hd hf
          obtain ⟨x, e, rfl⟩ := hd 7 (by simp)
          exact rg_assign _ rfl _ (e 32 rfl) ⟨_, rfl, .quiet rfl⟩
        · intro a γ v hj hu hd hf
          obtain ⟨x, e, rfl⟩ := hd 8 (by simp)
          exact rg_assign _ rfl _ (e 33 rfl) ⟨_, rfl, .quiet rfl⟩
      · intro V γ v hj h
        obtain ⟨g, h8, hg, _⟩ := h 9 (by decide)
        obtain ⟨q', ⟨hr, _⟩, g', hg', _, hx⟩ := h 10 (by decide)
        have h10 : V 11 = .int .i64 (e1) := h 11 (by decide)
        have h11 : V 12 = .bool true := h 12 (by decide)
        simp only [List.map_cons, List.map_nil, putD, Act.put, List.setIfInBounds_toArray, List.set_cons_succ, List.set_cons_zero, Nat.reduceAdd, Nat.zero_add, h8, h10, h11]
        go_wp2_with fail
        go_meet
        rw [hg] at hg'
        cases hg'
        exact ⟨g, q', rfl, rfl, rfl, Lib.hid hx, Lib.hid hr, Lib.hid hj.below⟩
    case rest =>
      obtain ⟨g1, q1, rfl, rfl, rfl, HG1, HP1, HB1⟩ := hcut
      obtain ⟨W1, hW⟩ : ∃ W, W = wc := ⟨_, rfl⟩
      subst hW
      have HB := Lib.hid (below_two HB.out HB1.out)
      have HG := Lib.hid (HG.out.below HB1.out)
      clear HB1 HPW HX
      by_cases he : e1 = 0
      · obtain ⟨hback, hdat, hcmp⟩ := HS2.out he
        subst he
        obtain ⟨nd, hnd⟩ : ∃ n, s.data.length = n := ⟨_, rfl⟩
        have hndb : nd ≤ 40 := by rw [← hnd]; exact HFS.out.few.data
        have HBK := Lib.hid hback
        have HND := Lib.hid hnd
        have HDA := Lib.hid hdat
        have HCM := Lib.hid hcmp
        have d1 : W1.cell? ⟨g1, 1, none⟩ = some (.slice q1.d nd q1.dc) := by have h := HG1.out.cell 1; rw [← show s1.data.length = nd by rw [hdat, hnd]]; exact h
        have a1 : W1.cell? ⟨w.heap.size, 1, none⟩ = some (.slice q.d nd q.dc) := by have h := HG.out.cell 1; rw [← HND.out]; exact h
        have hwd : IntKind.i64.wrap ((nd : Int) + 1) = (nd : Int) + 1 := IntWalk.i64_in _ (by omega)
        clear hback hnd hdat hcmp
        have HBL := Lib.hid (below_lit W1 (.cells (stL nilA zeroP).toArray 28))
        have HBN : Hid (Bx (W1.alloc (.cells (stL nilA zeroP).toArray 28)) W1.heap.size 28 (stL nilA zeroP)) := Lib.hid (Bx.new W1 _ _ _ _ rfl rfl)
        go_upto_region 11 with fail
        go_wp2_with (first
          | (refine wp_loadS rfl 28 _ rfl g1 rfl 28 (stL q1 s1) _ HG1.out Tryz.underlying28 rfl 15 infoSt rfl ?_)
          | (refine wp_storeS rfl 28 _ _ rfl W1.heap.size (stL q1 s1) rfl rfl 28 (stL nilA zeroP) HBN.out 15 infoSt rfl rfl (stL_one _ _) ?_))
        intro W2 hg5 hw5
        have HN2 : Hid (Below W1.heap.size W1 W2) := Lib.hid (below_grown HBL.out HBL.out.size hw5 (Nat.le_refl _))
        obtain ⟨g2, hg⟩ : ∃ g, W1.heap.size = g := ⟨_, rfl⟩
        have Hg2 : Hid (Bx W2 g2 28 (stL q1 s1)) := Lib.hid (by rw [← hg]; exact hg5)
        have hA2 : w.heap.size < g2 := by rw [← hg]; exact HG.out.lt
        have hG2 : g1 < g2 := by rw [← hg]; exact HG1.out.lt
        have hP2 : Lies q1 s1 (fun b => b < g2) := by rw [← hg]; exact HP1.out.lies
        have hPq : Lies q s (fun b => b < g2) := HP.out.lies.mono (fun b hb => by omega)
        rw [hg]
        have HB := Lib.hid (below_two HB.out HN2.out)
        have HG := Lib.hid (HG.out.below HN2.out)
        have HG1 := Lib.hid (HG1.out.below HN2.out)
        have HP1 := Lib.hid (HP1.out.below HN2.out)
        have HLP := Lib.hid (And.intro hP2 hPq)
        have a9 : W2.cell? ⟨w.heap.size, 9, none⟩ = some (.int .i64 s.pos) := HG.out.cell 9
        clear hg5 hw5 hg HBL HBN HN2 d1 a1 hP2 hPq
        go_wp2_with (refine wp_storeF rfl 3 _ _ rfl g2 9 _ rfl rfl rfl 28 _ Hg2.out 15 rfl (by decide) info1i ?_)
        intro W3 hg5 hw5
        have Hg3 : Hid (Bx W3 g2 28 ((stL q1 s1).set 9 (.int .i64 s.pos))) := Lib.hid hg5
        have HB3 := Lib.hid (below_grown HB.out HB.out.size hw5 (by omega))
        have HGa := Lib.hid (HG.out.grown hw5 (by omega))
        have HGb := Lib.hid (HG1.out.grown hw5 (by omega))
        have HPb := Lib.hid (HP1.out.grown HLP.out.1 hw5 (by omega))
        have a1 : W3.cell? ⟨w.heap.size, 1, none⟩ = some (.slice q.d nd q.dc) := by have h := HGa.out.cell 1; rw [← HND.out]; exact h
        clear hg5 hw5 a9
        go_wp2_with (refine wp_storeF rfl 23 _ _ rfl g2 1 _ rfl rfl rfl 28 _ Hg3.out 15 rfl (by decide) info1c ?_)
        intro W4 hg5 hw5
        have Hg4 : Hid (Bx W4 g2 28 (((stL q1 s1).set 9 (.int .i64 s.pos)).set 1 (.slice q.d nd q.dc))) := Lib.hid hg5
        have HB4 := Lib.hid (below_grown HB3.out HB3.out.size hw5 (by omega))
        have HGc := Lib.hid (HGa.out.grown hw5 (by omega))
        have HGd := Lib.hid (HGb.out.grown hw5 (by omega))
        have HPd := Lib.hid (HPb.out.grown HLP.out.1 hw5 (by omega))
        have a13 : W4.cell? ⟨w.heap.size, 13, none⟩ = some (.bool s.comp) := HGc.out.cell 13
        clear hg5 hw5 a1 HGa HGb HPb HB3 Hg3
        go_wp2_with (refine wp_storeF rfl 4 _ _ rfl g2 13 _ rfl rfl rfl 28 _ Hg4.out 15 rfl (by decide) info1b ?_)
        intro W5 hg5 hw5
        obtain ⟨qb, hqb⟩ : ∃ a : Ad, { q1 with d := q.d, dc := q.dc } = a := ⟨_, rfl⟩
        have Hg5 : Hid (Bx W5 g2 28 (stL qb s)) := Lib.hid (by
          have e : (((stL q1 s1).set 9 (.int .i64 s.pos)).set 1 (.slice q.d nd q.dc)).set 13 (.bool s.comp) = stL qb s := by
            rw [← hqb]
            conv => rhs; rw [← HBK.out]
            unfold stL
            simp only
            rw [HND.out]
            rfl
          rw [← e]
          exact hg5)
        have HB5 := Lib.hid (below_grown HB4.out HB4.out.size hw5 (by omega))
        have HGe := Lib.hid (HGc.out.grown hw5 (by omega))
        have HGf := Lib.hid (HGd.out.grown hw5 (by omega))
        have HPf := Lib.hid (HPd.out.grown HLP.out.1 hw5 (by omega))
        have HPB : Hid (RdP W5 qb s) := Lib.hid (by
          rw [← hqb]
          have h := ((HPf.out.withPos s.pos).withComp s.comp).withData (A := q.d) (c := q.dc) (m := s.data) (HP.out.below HB5.out).data
          have e : ({ { { s1 with pos := s.pos } with comp := s.comp } with data := s.data } : Ps) = s := HBK.out
          rw [e] at h
          exact h)
        clear hg5 hw5 hqb a13 HGc HGd HPd HB4 Hg4
        go_wp2_with (first
          | (refine wp_take rfl ?_; refine wp_loadS rfl 28 _ rfl g2 rfl 28 (stL qb s) _ Hg5.out Tryz.underlying28 rfl 15 infoSt rfl ?_)
          | (refine wp_take rfl ?_; refine wp_loadS rfl 28 _ rfl w.heap.size rfl 28 (stL q s) _ HGe.out Tryz.underlying28 rfl 15 infoSt rfl ?_))
        refine (Same_any qb q s W5 HPB.out (HP.out.below HB5.out) (by have := HFS.out.few.data; omega) (by have := HFS.out.few.ret; omega) (by have := HFS.out.few.ctl; omega) (by have := HFS.out.few.words; omega) (by have := HFS.out.few.spots; omega)).mono ?_
        rintro e u3 ⟨rfl, hb⟩
        have HBz := Lib.hid (below_two HB5.out hb)
        have HGz := Lib.hid (HGe.out.below hb)
        have HGy := Lib.hid (HGf.out.below hb)
        have d1 : u3.cell? ⟨g1, 1, none⟩ = some (.slice q1.d nd q1.dc) := by have h := HGy.out.cell 1; rw [← show s1.data.length = nd by rw [HDA.out, HND.out]]; exact h
        have a1 : u3.cell? ⟨w.heap.size, 1, none⟩ = some (.slice q.d nd q.dc) := by have h := HGz.out.cell 1; rw [← HND.out]; exact h
        have d13 : u3.cell? ⟨g1, 13, none⟩ = some (.bool s.comp) := by have h := HGy.out.cell 13; rw [← HCM.out]; exact h
        have a13 : u3.cell? ⟨w.heap.size, 13, none⟩ = some (.bool s.comp) := HGz.out.cell 13
        clear hb
        go_wp2
        go_ret
        exact ⟨rfl, HBz.out⟩
      · have hz := HS1.out he
        subst hz
        go_wp2_with (refine wp_take rfl ?_; refine wp_loadS rfl 28 _ rfl g1 rfl 28 (stL q1 zeroP) _ HG1.out Tryz.underlying28 rfl 15 infoSt rfl ?_)
        refine (Same_is q1 nilA zeroP _ _ W1 rfl rfl HP1.out (RdP.zero W1) (by decide) (by decide) (by decide) (by decide) (by decide)).mono ?_
        rintro e u3 ⟨rfl, hb⟩
        have HBz := Lib.hid (below_two HB.out hb)
        clear hb
        go_wp2
        go_ret
        exact ⟨rfl, HBz.out⟩
set_option maxRecDepth 100000 in
set_option maxHeartbeats 8000000 in
theorem DefsStays3_walk (q : Ad) (s : Ps) (x : Sx) (n : Int) (hn : 0 ≤ n ∧ n < 256) (hrem : n.tmod 6 = 3) (w : World) (hp : RdP w q s) (hh : -9223372036854775808 ≤ s.here ∧ s.here ≤ 9223372036854775807) (ht : Tab w) :
    Calls Tryz.prog 6 #[stV q s, suV x, .int .u8 n] w fun e w' => e = .returned (.bool true) ∧ Below w.heap.size w w' := by
  have HN := Lib.hid hn
  have HP := Lib.hid hp
  have HT := Lib.hid ht
  have HH := Lib.hid hh
  have hB0 := below_two (below_lit w (.cells (stL q s).toArray 28)) (below_lit _ (.cells (suL x).toArray 30))
  have hS : Bx ((w.alloc (.cells (stL q s).toArray 28)).alloc (.cells (suL x).toArray 30)) w.heap.size 28 (stL q s) := (Bx.new w _ _ _ _ rfl rfl).alloc _
  have hX : Bx ((w.alloc (.cells (stL q s).toArray 28)).alloc (.cells (suL x).toArray 30)) (w.heap.size + 1) 30 (suL x) := Bx.new _ _ _ _ _ (by simp) rfl
  obtain ⟨W, hW⟩ : ∃ W, (w.alloc (.cells #[.slice q.m s.mem.length q.mc, .slice q.d s.data.length q.dc, .slice q.r s.ret.length q.rc, .slice q.c s.ctl.length q.cc, .slice q.w s.words.length q.wc, .slice q.s s.spots.length q.sc, .slice q.o s.out.length q.oc, .int .i64 s.ip, .int .i64 s.here, .int .i64 s.pos, .int .i64 s.tok, .int .i64 s.inp, .int .i64 s.err, .bool s.comp, .bool s.halt] 28)).alloc (.cells #[.string x.src, .slice x.iA x.iN x.iC, .int .i64 x.size, .int .i64 x.depth, .int .i64 x.room] 30) = W := ⟨_, rfl⟩
  have HB0 : Hid (Below w.heap.size w W) := Lib.hid (by rw [← hW]; exact hB0)
  have HG0 : Hid (Bx W w.heap.size 28 (stL q s)) := Lib.hid (by rw [← hW]; exact hS)
  have HX0 : Hid (Bx W (w.heap.size + 1) 30 (suL x)) := Lib.hid (by rw [← hW]; exact hX)
  have HWW := Lib.hid hW
  clear hp ht hh hB0 hS hX hW
  rw [stV_eq q s, suV_eq x]
  go_enter Tryz.func6, Tryz.ntmps6
  go_upto_region 1 with fail
  rw [HWW.out]
  go_wp2_with fail
  refine (awake_any _ (HT.out.below HB0.out)).mono ?_
  rintro e w1 ⟨rfl, hb⟩
  have HB := Lib.hid (below_two HB0.out hb)
  have HG := Lib.hid (HG0.out.below hb)
  have HX := Lib.hid (HX0.out.below hb)
  clear hb HB0 HG0 HX0 HWW
  go_wp2_with (first
    | (refine wp_loadS rfl 28 _ rfl w.heap.size rfl 28 (stL q s) _ HG.out Tryz.underlying28 rfl 15 infoSt rfl ?_)
    | (refine wp_loadS rfl 30 _ rfl (w.heap.size + 1) rfl 30 (suL x) _ HX.out Tryz.underlying30 rfl 5 infoSx rfl ?_))
  refine (Few12_any q s x w1 (HP.out.below HB.out)).mono ?_
  rintro e w2 ⟨⟨b, rfl, hf⟩, hb⟩
  have HF := Lib.hid hf
  have HB := Lib.hid (below_two HB.out hb)
  have HG := Lib.hid (HG.out.below hb)
  have HX := Lib.hid (HX.out.below hb)
  clear hb hf
  cases b with
  | false =>
    go_wp2
    go_ret
    exact ⟨rfl, HB.out⟩
  | true =>
    have hfs := HF.out rfl
    have HFS := Lib.hid hfs
    have HZ : Hid (SzD s) := Lib.hid ⟨by have := hfs.few.mem; omega, by have := hfs.few.data; omega, by have := hfs.few.spots; omega, by have := hfs.few.words; omega, by have := hfs.few.out; omega, fun y hy => by have := hfs.nms y hy; omega⟩
    clear hfs HF
    obtain ⟨s1, e1, b1, hd⟩ : ∃ a b c, doD x s 128 = (a, b, c) := ⟨_, _, _, rfl⟩
    obtain ⟨rfl, hst1, hst2⟩ := stays_128 hd
    have HD := Lib.hid hd
    have HLE : Hid (LeB s1 s 10) := Lib.hid (by have h := doD_le x s 128; rw [hd] at h; exact h)
    have HS1 := Lib.hid hst1
    have HS2 := Lib.hid hst2
    clear hd hst1 hst2
    go_wp2_with fail
    have HBA := Lib.hid (below_lit w2 (.cells #[.string ⟨#[39]⟩, .string ⟨#[67, 72, 65, 82]⟩, .string ⟨#[40]⟩, .string ⟨#[92]⟩, .string ⟨#[91]⟩, .string ⟨#[93]⟩] 9))
    obtain ⟨w3, hw3⟩ : ∃ v, w2.alloc (.cells #[.string ⟨#[39]⟩, .string ⟨#[67, 72, 65, 82]⟩, .string ⟨#[40]⟩, .string ⟨#[92]⟩, .string ⟨#[91]⟩, .string ⟨#[93]⟩] 9) = v := ⟨_, rfl⟩
    have HB := Lib.hid (below_two HB.out HBA.out)
    have HG := Lib.hid (HG.out.below HBA.out)
    have HX := Lib.hid (HX.out.below HBA.out)
    rw [hw3] at HB HG HX ⊢
    clear HBA hw3
    have HPW := Lib.hid (HP.out.below HB.out)
    go_upto_region 5 with fail
    go_cut [9, 10, 11] (fun a b c wx => ∃ (g : Nat) (q : Ad), a = .pointer (some ⟨g, 0, none⟩) ∧ b = .int .i64 (e1) ∧ c = .bool true ∧ Hid (Bx wx g 28 (stL q s1)) ∧ Hid (RdP wx q s1) ∧ Hid (Below w3.heap.size w3 wx))
    case first =>
      refine wp_region_facts (W := w3) [fVal (stV q s), fVal (suV x), fVal (.string ⟨#[92]⟩), fVal (.int .i64 128), fTup s1 [.int .i64 (e1), .bool true], fTup s1 [.int .i64 (e1), .bool true], fSt s1, fVal (.int .i64 (e1)), fVal (.bool true), fBox 18 28 (stL nilA zeroP), fSet 18 28 s1, fVal (.int .i64 (e1)), fVal (.bool true)] (fun | 3 => [2] | 4 => [0, 1, 3] | 5 => [4] | 6 => [5] | 7 => [5] | 8 => [5] | 10 => [9, 6] | 11 => [7] | 12 => [8] | _ => []) (fun | 10 => 19 | i => 2 * i) _ rfl rfl (by kernel_rfl) (by kernel_rfl) ?_ ?_ ?_
      · exact (.cons (stable_val _ _) (.cons (stable_val _ _) (.cons (stable_val _ _) (.cons (stable_val _ _) (.cons (stable_tup _ _ _) (.cons (stable_tup _ _ _) (.cons (stable_st _ _) (.cons (stable_val _ _) (.cons (stable_val _ _) (.cons (stable_box _ _ _ _) (.cons (stable_set _ _ _ _) (.cons (stable_val _ _) (.cons (stable_val _ _) AllStable.nil)))))))))))))
      · refine ⟨?_, ?_, ?_, ?_, ?_, ?_, ?_, ?_, ?_, ?_, ?_, ?_, ?_, trivial⟩
        · intro a γ v hj hu hd hf
          exact rg_load 28 _ rfl w.heap.size (hf 3 (by decide)) 28 (stL q s) _ (HG.out.below hj.below) Tryz.underlying28 rfl 15 infoSt rfl ⟨_, rfl, .quiet rfl⟩
        · intro a γ v hj hu hd hf
          exact rg_load 30 _ rfl (w.heap.size + 1) (hf 4 (by decide)) 30 (suL x) _ (HX.out.below hj.below) Tryz.underlying30 rfl 5 infoSx rfl ⟨_, rfl, .quiet rfl⟩
        · intro a γ v hj hu hd hf
          exact rg_move _ rfl _ (hf 8 (by decide)) ⟨_, rfl, .quiet rfl⟩
        · intro a γ v hj hu hd hf
          obtain ⟨_, e, rfl⟩ := hd 2 (by simp)
          refine rg_call 17 _ _ rfl #[.string ⟨#[92]⟩] (by simp [e 28 rfl]) (by go_simp) _ (Find_any ⟨#[92]⟩ 128 v (by decide +kernel) (by decide) (HT.out.below (below_two HB.out hj.below))) ?_
          rintro e w' ⟨rfl, hb⟩
          exact ⟨_, rfl, _, rfl, .grow hb rfl⟩
        · intro a γ v hj hu hd hf
          obtain ⟨x0, e0, rfl⟩ := hd 0 (by simp)
          obtain ⟨x1, e1', rfl⟩ := hd 1 (by simp)
          obtain ⟨x2, e2, rfl⟩ := hd 3 (by simp)
          refine rg_call 10 _ _ rfl #[stV q s, suV x, .int .i64 128] (by simp [e0 26 rfl, e1' 27 rfl, e2 29 rfl]) (by go_simp) _ (DoD_any 128 q s x s1 e1 true v HD.out (HPW.out.below hj.below) HFS.out.src HZ.out (HT.out.below (below_two HB.out hj.below))) ?_
          rintro e w' ⟨q', rfl, hres, hb⟩
          exact ⟨_, rfl, _, rfl, .grow hb ⟨q', rfl, .of_res hj (hj.lies_old HPW.out) hres⟩⟩
        · intro a γ v hj hu hd hf
          obtain ⟨x, e, q, rfl, hs⟩ := hd 4 (by simp)
          exact rg_move _ rfl _ (e 30 rfl) ⟨_, rfl, .quiet ⟨q, rfl, hs⟩⟩
        · intro a γ v hj hu hd hf
          obtain ⟨x, e, q, rfl, hs⟩ := hd 5 (by simp)
          exact rg_extract _ _ rfl _ (e 25 rfl) _ rfl ⟨_, rfl, .quiet ⟨q, rfl, hs⟩⟩
        · intro a γ v hj hu hd hf
          obtain ⟨x, e, q, rfl, hs⟩ := hd 5 (by simp)
          exact rg_extract _ _ rfl _ (e 25 rfl) _ rfl ⟨_, rfl, .quiet rfl⟩
        · intro a γ v hj hu hd hf
          obtain ⟨x, e, q, rfl, hs⟩ := hd 5 (by simp)
          exact rg_extract _ _ rfl _ (e 25 rfl) _ rfl ⟨_, rfl, .quiet rfl⟩
        · intro a γ v hj hu hd hf
          refine rg_alloc 28 rfl (stL nilA zeroP) (.agg (stL nilA zeroP).toArray) (by kernel_rfl) rfl ?_
          intro w' g hx hb h1 h2
          exact ⟨_, rfl, .box (by kernel_rfl) (by decide) hu hb h1 h2 hx⟩
        · intro a γ v hj hu hd hf
          obtain ⟨x1, e1, g, rfl, hg, hx⟩ := hd 9 (by simp)
          obtain ⟨x2, e2, q, rfl, hs⟩ := hd 6 (by simp)
          refine rg_store 28 _ _ rfl g (stL q s1) (e1 9 rfl) (e2 31 rfl) 28 _ (hx hu) 15 infoSt rfl rfl (stL_one q s1) ?_
          intro w' hx' hg'
          exact ⟨_, rfl, .set (k := 18) (by kernel_rfl) (by decide) rfl hg hu hg' ⟨q, GE.st (.set 18 g hg hu hg') hs, g, by rw [gset_other _ _ (by decide)]; exact hg, gset_same _ _ _, hx'⟩⟩
        · intro a γ v hj hu hd hf
          obtain ⟨x, e, rfl⟩ := hd 7 (by simp)
          exact rg_assign _ rfl _ (e 32 rfl) ⟨_, rfl, .quiet rfl⟩
        · intro a γ v hj hu hd hf
          obtain ⟨x, e, rfl⟩ := hd 8 (by simp)
          exact rg_assign _ rfl _ (e 33 rfl) ⟨_, rfl, .quiet rfl⟩
      · intro V γ v hj h
        obtain ⟨g, h8, hg, _⟩ := h 9 (by decide)
        obtain ⟨q', ⟨hr, _⟩, g', hg', _, hx⟩ := h 10 (by decide)
        have h10 : V 11 = .int .i64 (e1) := h 11 (by decide)
        have h11 : V 12 = .bool true := h 12 (by decide)
        simp only [List.map_cons, List.map_nil, putD, Act.put, List.setIfInBounds_toArray, List.set_cons_succ, List.set_cons_zero, Nat.reduceAdd, Nat.zero_add, h8, h10, h11]
        go_wp2_with fail
        go_meet
        rw [hg] at hg'
        cases hg'
        exact ⟨g, q', rfl, rfl, rfl, Lib.hid hx, Lib.hid hr, Lib.hid hj.below⟩
    case rest =>
      obtain ⟨g1, q1, rfl, rfl, rfl, HG1, HP1, HB1⟩ := hcut
      obtain ⟨W1, hW⟩ : ∃ W, W = wc := ⟨_, rfl⟩
      subst hW
      have HB := Lib.hid (below_two HB.out HB1.out)
      have HG := Lib.hid (HG.out.below HB1.out)
      clear HB1 HPW HX
      by_cases he : e1 = 0
      · obtain ⟨hback, hdat, hcmp⟩ := HS2.out he
        subst he
        obtain ⟨nd, hnd⟩ : ∃ n, s.data.length = n := ⟨_, rfl⟩
        have hndb : nd ≤ 40 := by rw [← hnd]; exact HFS.out.few.data
        have HBK := Lib.hid hback
        have HND := Lib.hid hnd
        have HDA := Lib.hid hdat
        have HCM := Lib.hid hcmp
        have d1 : W1.cell? ⟨g1, 1, none⟩ = some (.slice q1.d nd q1.dc) := by have h := HG1.out.cell 1; rw [← show s1.data.length = nd by rw [hdat, hnd]]; exact h
        have a1 : W1.cell? ⟨w.heap.size, 1, none⟩ = some (.slice q.d nd q.dc) := by have h := HG.out.cell 1; rw [← HND.out]; exact h
        have hwd : IntKind.i64.wrap ((nd : Int) + 1) = (nd : Int) + 1 := IntWalk.i64_in _ (by omega)
        clear hback hnd hdat hcmp
        have HBL := Lib.hid (below_lit W1 (.cells (stL nilA zeroP).toArray 28))
        have HBN : Hid (Bx (W1.alloc (.cells (stL nilA zeroP).toArray 28)) W1.heap.size 28 (stL nilA zeroP)) := Lib.hid (Bx.new W1 _ _ _ _ rfl rfl)
        go_upto_region 11 with fail
        go_wp2_with (first
          | (refine wp_loadS rfl 28 _ rfl g1 rfl 28 (stL q1 s1) _ HG1.out Tryz.underlying28 rfl 15 infoSt rfl ?_)
          | (refine wp_storeS rfl 28 _ _ rfl W1.heap.size (stL q1 s1) rfl rfl 28 (stL nilA zeroP) HBN.out 15 infoSt rfl rfl (stL_one _ _) ?_))
        intro W2 hg5 hw5
        have HN2 : Hid (Below W1.heap.size W1 W2) := Lib.hid (below_grown HBL.out HBL.out.size hw5 (Nat.le_refl _))
        obtain ⟨g2, hg⟩ : ∃ g, W1.heap.size = g := ⟨_, rfl⟩
        have Hg2 : Hid (Bx W2 g2 28 (stL q1 s1)) := Lib.hid (by rw [← hg]; exact hg5)
        have hA2 : w.heap.size < g2 := by rw [← hg]; exact HG.out.lt
        have hG2 : g1 < g2 := by rw [← hg]; exact HG1.out.lt
        have hP2 : Lies q1 s1 (fun b => b < g2) := by rw [← hg]; exact HP1.out.lies
        have hPq : Lies q s (fun b => b < g2) := HP.out.lies.mono (fun b hb => by omega)
        rw [hg]
        have HB := Lib.hid (below_two HB.out HN2.out)
        have HG := Lib.hid (HG.out.below HN2.out)
        have HG1 := Lib.hid (HG1.out.below HN2.out)
        have HP1 := Lib.hid (HP1.out.below HN2.out)
        have HLP := Lib.hid (And.intro hP2 hPq)
        have a9 : W2.cell? ⟨w.heap.size, 9, none⟩ = some (.int .i64 s.pos) := HG.out.cell 9
        clear hg5 hw5 hg HBL HBN HN2 d1 a1 hP2 hPq
        go_wp2_with (refine wp_storeF rfl 3 _ _ rfl g2 9 _ rfl rfl rfl 28 _ Hg2.out 15 rfl (by decide) info1i ?_)
        intro W3 hg5 hw5
        have Hg3 : Hid (Bx W3 g2 28 ((stL q1 s1).set 9 (.int .i64 s.pos))) := Lib.hid hg5
        have HB3 := Lib.hid (below_grown HB.out HB.out.size hw5 (by omega))
        have HGa := Lib.hid (HG.out.grown hw5 (by omega))
        have HGb := Lib.hid (HG1.out.grown hw5 (by omega))
        have HPb := Lib.hid (HP1.out.grown HLP.out.1 hw5 (by omega))
        have a1 : W3.cell? ⟨w.heap.size, 1, none⟩ = some (.slice q.d nd q.dc) := by have h := HGa.out.cell 1; rw [← HND.out]; exact h
        clear hg5 hw5 a9
        go_wp2_with (refine wp_storeF rfl 23 _ _ rfl g2 1 _ rfl rfl rfl 28 _ Hg3.out 15 rfl (by decide) info1c ?_)
        intro W4 hg5 hw5
        have Hg4 : Hid (Bx W4 g2 28 (((stL q1 s1).set 9 (.int .i64 s.pos)).set 1 (.slice q.d nd q.dc))) := Lib.hid hg5
        have HB4 := Lib.hid (below_grown HB3.out HB3.out.size hw5 (by omega))
        have HGc := Lib.hid (HGa.out.grown hw5 (by omega))
        have HGd := Lib.hid (HGb.out.grown hw5 (by omega))
        have HPd := Lib.hid (HPb.out.grown HLP.out.1 hw5 (by omega))
        have a13 : W4.cell? ⟨w.heap.size, 13, none⟩ = some (.bool s.comp) := HGc.out.cell 13
        clear hg5 hw5 a1 HGa HGb HPb HB3 Hg3
        go_wp2_with (refine wp_storeF rfl 4 _ _ rfl g2 13 _ rfl rfl rfl 28 _ Hg4.out 15 rfl (by decide) info1b ?_)
        intro W5 hg5 hw5
        obtain ⟨qb, hqb⟩ : ∃ a : Ad, { q1 with d := q.d, dc := q.dc } = a := ⟨_, rfl⟩
        have Hg5 : Hid (Bx W5 g2 28 (stL qb s)) := Lib.hid (by
          have e : (((stL q1 s1).set 9 (.int .i64 s.pos)).set 1 (.slice q.d nd q.dc)).set 13 (.bool s.comp) = stL qb s := by
            rw [← hqb]
            conv => rhs; rw [← HBK.out]
            unfold stL
            simp only
            rw [HND.out]
            rfl
          rw [← e]
          exact hg5)
        have HB5 := Lib.hid (below_grown HB4.out HB4.out.size hw5 (by omega))
        have HGe := Lib.hid (HGc.out.grown hw5 (by omega))
        have HGf := Lib.hid (HGd.out.grown hw5 (by omega))
        have HPf := Lib.hid (HPd.out.grown HLP.out.1 hw5 (by omega))
        have HPB : Hid (RdP W5 qb s) := Lib.hid (by
          rw [← hqb]
          have h := ((HPf.out.withPos s.pos).withComp s.comp).withData (A := q.d) (c := q.dc) (m := s.data) (HP.out.below HB5.out).data
          have e : ({ { { s1 with pos := s.pos } with comp := s.comp } with data := s.data } : Ps) = s := HBK.out
          rw [e] at h
          exact h)
        clear hg5 hw5 hqb a13 HGc HGd HPd HB4 Hg4
        go_wp2_with (first
          | (refine wp_take rfl ?_; refine wp_loadS rfl 28 _ rfl g2 rfl 28 (stL qb s) _ Hg5.out Tryz.underlying28 rfl 15 infoSt rfl ?_)
          | (refine wp_take rfl ?_; refine wp_loadS rfl 28 _ rfl w.heap.size rfl 28 (stL q s) _ HGe.out Tryz.underlying28 rfl 15 infoSt rfl ?_))
        refine (Same_any qb q s W5 HPB.out (HP.out.below HB5.out) (by have := HFS.out.few.data; omega) (by have := HFS.out.few.ret; omega) (by have := HFS.out.few.ctl; omega) (by have := HFS.out.few.words; omega) (by have := HFS.out.few.spots; omega)).mono ?_
        rintro e u3 ⟨rfl, hb⟩
        have HBz := Lib.hid (below_two HB5.out hb)
        have HGz := Lib.hid (HGe.out.below hb)
        have HGy := Lib.hid (HGf.out.below hb)
        have d1 : u3.cell? ⟨g1, 1, none⟩ = some (.slice q1.d nd q1.dc) := by have h := HGy.out.cell 1; rw [← show s1.data.length = nd by rw [HDA.out, HND.out]]; exact h
        have a1 : u3.cell? ⟨w.heap.size, 1, none⟩ = some (.slice q.d nd q.dc) := by have h := HGz.out.cell 1; rw [← HND.out]; exact h
        have d13 : u3.cell? ⟨g1, 13, none⟩ = some (.bool s.comp) := by have h := HGy.out.cell 13; rw [← HCM.out]; exact h
        have a13 : u3.cell? ⟨w.heap.size, 13, none⟩ = some (.bool s.comp) := HGz.out.cell 13
        clear hb
        go_wp2
        go_ret
        exact ⟨rfl, HBz.out⟩
      · have hz := HS1.out he
        subst hz
        go_wp2_with (refine wp_take rfl ?_; refine wp_loadS rfl 28 _ rfl g1 rfl 28 (stL q1 zeroP) _ HG1.out Tryz.underlying28 rfl 15 infoSt rfl ?_)
        refine (Same_is q1 nilA zeroP _ _ W1 rfl rfl HP1.out (RdP.zero W1) (by decide) (by decide) (by decide) (by decide) (by decide)).mono ?_
        rintro e u3 ⟨rfl, hb⟩
        have HBz := Lib.hid (below_two HB.out hb)
        clear hb
        go_wp2
        go_ret
        exact ⟨rfl, HBz.out⟩
set_option maxRecDepth 100000 in
set_option maxHeartbeats 8000000 in
theorem DefsStays4_walk (q : Ad) (s : Ps) (x : Sx) (n : Int) (hn : 0 ≤ n ∧ n < 256) (hrem : n.tmod 6 = 4) (w : World) (hp : RdP w q s) (hh : -9223372036854775808 ≤ s.here ∧ s.here ≤ 9223372036854775807) (ht : Tab w) :
    Calls Tryz.prog 6 #[stV q s, suV x, .int .u8 n] w fun e w' => e = .returned (.bool true) ∧ Below w.heap.size w w' := by
  have HN := Lib.hid hn
  have HP := Lib.hid hp
  have HT := Lib.hid ht
  have HH := Lib.hid hh
  have hB0 := below_two (below_lit w (.cells (stL q s).toArray 28)) (below_lit _ (.cells (suL x).toArray 30))
  have hS : Bx ((w.alloc (.cells (stL q s).toArray 28)).alloc (.cells (suL x).toArray 30)) w.heap.size 28 (stL q s) := (Bx.new w _ _ _ _ rfl rfl).alloc _
  have hX : Bx ((w.alloc (.cells (stL q s).toArray 28)).alloc (.cells (suL x).toArray 30)) (w.heap.size + 1) 30 (suL x) := Bx.new _ _ _ _ _ (by simp) rfl
  obtain ⟨W, hW⟩ : ∃ W, (w.alloc (.cells #[.slice q.m s.mem.length q.mc, .slice q.d s.data.length q.dc, .slice q.r s.ret.length q.rc, .slice q.c s.ctl.length q.cc, .slice q.w s.words.length q.wc, .slice q.s s.spots.length q.sc, .slice q.o s.out.length q.oc, .int .i64 s.ip, .int .i64 s.here, .int .i64 s.pos, .int .i64 s.tok, .int .i64 s.inp, .int .i64 s.err, .bool s.comp, .bool s.halt] 28)).alloc (.cells #[.string x.src, .slice x.iA x.iN x.iC, .int .i64 x.size, .int .i64 x.depth, .int .i64 x.room] 30) = W := ⟨_, rfl⟩
  have HB0 : Hid (Below w.heap.size w W) := Lib.hid (by rw [← hW]; exact hB0)
  have HG0 : Hid (Bx W w.heap.size 28 (stL q s)) := Lib.hid (by rw [← hW]; exact hS)
  have HX0 : Hid (Bx W (w.heap.size + 1) 30 (suL x)) := Lib.hid (by rw [← hW]; exact hX)
  have HWW := Lib.hid hW
  clear hp ht hh hB0 hS hX hW
  rw [stV_eq q s, suV_eq x]
  go_enter Tryz.func6, Tryz.ntmps6
  go_upto_region 1 with fail
  rw [HWW.out]
  go_wp2_with fail
  refine (awake_any _ (HT.out.below HB0.out)).mono ?_
  rintro e w1 ⟨rfl, hb⟩
  have HB := Lib.hid (below_two HB0.out hb)
  have HG := Lib.hid (HG0.out.below hb)
  have HX := Lib.hid (HX0.out.below hb)
  clear hb HB0 HG0 HX0 HWW
  go_wp2_with (first
    | (refine wp_loadS rfl 28 _ rfl w.heap.size rfl 28 (stL q s) _ HG.out Tryz.underlying28 rfl 15 infoSt rfl ?_)
    | (refine wp_loadS rfl 30 _ rfl (w.heap.size + 1) rfl 30 (suL x) _ HX.out Tryz.underlying30 rfl 5 infoSx rfl ?_))
  refine (Few12_any q s x w1 (HP.out.below HB.out)).mono ?_
  rintro e w2 ⟨⟨b, rfl, hf⟩, hb⟩
  have HF := Lib.hid hf
  have HB := Lib.hid (below_two HB.out hb)
  have HG := Lib.hid (HG.out.below hb)
  have HX := Lib.hid (HX.out.below hb)
  clear hb hf
  cases b with
  | false =>
    go_wp2
    go_ret
    exact ⟨rfl, HB.out⟩
  | true =>
    have hfs := HF.out rfl
    have HFS := Lib.hid hfs
    have HZ : Hid (SzD s) := Lib.hid ⟨by have := hfs.few.mem; omega, by have := hfs.few.data; omega, by have := hfs.few.spots; omega, by have := hfs.few.words; omega, by have := hfs.few.out; omega, fun y hy => by have := hfs.nms y hy; omega⟩
    clear hfs HF
    obtain ⟨s1, e1, b1, hd⟩ : ∃ a b c, doD x s 122 = (a, b, c) := ⟨_, _, _, rfl⟩
    obtain ⟨rfl, hst1, hst2⟩ := stays_122 hd
    have HD := Lib.hid hd
    have HLE : Hid (LeB s1 s 10) := Lib.hid (by have h := doD_le x s 122; rw [hd] at h; exact h)
    have HS1 := Lib.hid hst1
    have HS2 := Lib.hid hst2
    clear hd hst1 hst2
    go_wp2_with fail
    have HBA := Lib.hid (below_lit w2 (.cells #[.string ⟨#[39]⟩, .string ⟨#[67, 72, 65, 82]⟩, .string ⟨#[40]⟩, .string ⟨#[92]⟩, .string ⟨#[91]⟩, .string ⟨#[93]⟩] 9))
    obtain ⟨w3, hw3⟩ : ∃ v, w2.alloc (.cells #[.string ⟨#[39]⟩, .string ⟨#[67, 72, 65, 82]⟩, .string ⟨#[40]⟩, .string ⟨#[92]⟩, .string ⟨#[91]⟩, .string ⟨#[93]⟩] 9) = v := ⟨_, rfl⟩
    have HB := Lib.hid (below_two HB.out HBA.out)
    have HG := Lib.hid (HG.out.below HBA.out)
    have HX := Lib.hid (HX.out.below HBA.out)
    rw [hw3] at HB HG HX ⊢
    clear HBA hw3
    have HPW := Lib.hid (HP.out.below HB.out)
    go_upto_region 5 with fail
    go_cut [9, 10, 11] (fun a b c wx => ∃ (g : Nat) (q : Ad), a = .pointer (some ⟨g, 0, none⟩) ∧ b = .int .i64 (e1) ∧ c = .bool true ∧ Hid (Bx wx g 28 (stL q s1)) ∧ Hid (RdP wx q s1) ∧ Hid (Below w3.heap.size w3 wx))
    case first =>
      refine wp_region_facts (W := w3) [fVal (stV q s), fVal (suV x), fVal (.string ⟨#[91]⟩), fVal (.int .i64 122), fTup s1 [.int .i64 (e1), .bool true], fTup s1 [.int .i64 (e1), .bool true], fSt s1, fVal (.int .i64 (e1)), fVal (.bool true), fBox 18 28 (stL nilA zeroP), fSet 18 28 s1, fVal (.int .i64 (e1)), fVal (.bool true)] (fun | 3 => [2] | 4 => [0, 1, 3] | 5 => [4] | 6 => [5] | 7 => [5] | 8 => [5] | 10 => [9, 6] | 11 => [7] | 12 => [8] | _ => []) (fun | 10 => 19 | i => 2 * i) _ rfl rfl (by kernel_rfl) (by kernel_rfl) ?_ ?_ ?_
      · exact (.cons (stable_val _ _) (.cons (stable_val _ _) (.cons (stable_val _ _) (.cons (stable_val _ _) (.cons (stable_tup _ _ _) (.cons (stable_tup _ _ _) (.cons (stable_st _ _) (.cons (stable_val _ _) (.cons (stable_val _ _) (.cons (stable_box _ _ _ _) (.cons (stable_set _ _ _ _) (.cons (stable_val _ _) (.cons (stable_val _ _) AllStable.nil)))))))))))))
      · refine ⟨?_, ?_, ?_, ?_, ?_, ?_, ?_, ?_, ?_, ?_, ?_, ?_, ?_, trivial⟩
        · intro a γ v hj hu hd hf
          exact rg_load 28 _ rfl w.heap.size (hf 3 (by decide)) 28 (stL q s) _ (HG.out.below hj.below) Tryz.underlying28 rfl 15 infoSt rfl ⟨_, rfl, .quiet rfl⟩
        · intro a γ v hj hu hd hf
          exact rg_load 30 _ rfl (w.heap.size + 1) (hf 4 (by decide)) 30 (suL x) _ (HX.out.below hj.below) Tryz.underlying30 rfl 5 infoSx rfl ⟨_, rfl, .quiet rfl⟩
        · intro a γ v hj hu hd hf
          exact rg_move _ rfl _ (hf 8 (by decide)) ⟨_, rfl, .quiet rfl⟩
        · intro a γ v hj hu hd hf
          obtain ⟨_, e, rfl⟩ := hd 2 (by simp)
          refine rg_call 17 _ _ rfl #[.string ⟨#[91]⟩] (by simp [e 28 rfl]) (by go_simp) _ (Find_any ⟨#[91]⟩ 122 v (by decide +kernel) (by decide) (HT.out.below (below_two HB.out hj.below))) ?_
          rintro e w' ⟨rfl, hb⟩
          exact ⟨_, rfl, _, rfl, .grow hb rfl⟩
        · intro a γ v hj hu hd hf
          obtain ⟨x0, e0, rfl⟩ := hd 0 (by simp)
          obtain ⟨x1, e1', rfl⟩ := hd 1 (by simp)
          obtain ⟨x2, e2, rfl⟩ := hd 3 (by simp)
          refine rg_call 10 _ _ rfl #[stV q s, suV x, .int .i64 122] (by simp [e0 26 rfl, e1' 27 rfl, e2 29 rfl]) (by go_simp) _ (DoD_any 122 q s x s1 e1 true v HD.out (HPW.out.below hj.below) HFS.out.src HZ.out (HT.out.below (below_two HB.out hj.below))) ?_
          rintro e w' ⟨q', rfl, hres, hb⟩
          exact ⟨_, rfl, _, rfl, .grow hb ⟨q', rfl, .of_res hj (hj.lies_old HPW.out) hres⟩⟩
        · intro a γ v hj hu hd hf
          obtain ⟨x, e, q, rfl, hs⟩ := hd 4 (by simp)
          exact rg_move _ rfl _ (e 30 rfl) ⟨_, rfl, .quiet ⟨q, rfl, hs⟩⟩
        · intro a γ v hj hu hd hf
          obtain ⟨x, e, q, rfl, hs⟩ := hd 5 (by simp)
          exact rg_extract _ _ rfl _ (e 25 rfl) _ rfl ⟨_, rfl, .quiet ⟨q, rfl, hs⟩⟩
        · intro a γ v hj hu hd hf
          obtain ⟨x, e, q, rfl, hs⟩ := hd 5 (by simp)
          exact rg_extract _ _ rfl _ (e 25 rfl) _ rfl ⟨_, rfl, .quiet rfl⟩
        · intro a γ v hj hu hd hf
          obtain ⟨x, e, q, rfl, hs⟩ := hd 5 (by simp)
          exact rg_extract _ _ rfl _ (e 25 rfl) _ rfl ⟨_, rfl, .quiet rfl⟩
        · intro a γ v hj hu hd hf
          refine rg_alloc 28 rfl (stL nilA zeroP) (.agg (stL nilA zeroP).toArray) (by kernel_rfl) rfl ?_
          intro w' g hx hb h1 h2
          exact ⟨_, rfl, .box (by kernel_rfl) (by decide) hu hb h1 h2 hx⟩
        · intro a γ v hj hu hd hf
          obtain ⟨x1, e1, g, rfl, hg, hx⟩ := hd 9 (by simp)
          obtain ⟨x2, e2, q, rfl, hs⟩ := hd 6 (by simp)
          refine rg_store 28 _ _ rfl g (stL q s1) (e1 9 rfl) (e2 31 rfl) 28 _ (hx hu) 15 infoSt rfl rfl (stL_one q s1) ?_
          intro w' hx' hg'
          exact ⟨_, rfl, .set (k := 18) (by kernel_rfl) (by decide) rfl hg hu hg' ⟨q, GE.st (.set 18 g hg hu hg') hs, g, by rw [gset_other _ _ (by decide)]; exact hg, gset_same _ _ _, hx'⟩⟩
        · intro a γ v hj hu hd hf
          obtain ⟨x, e, rfl⟩ := hd 7 (by simp)
          exact rg_assign _ rfl _ (e 32 rfl) ⟨_, rfl, .quiet rfl⟩
        · intro a γ v hj hu hd hf
          obtain ⟨x, e, rfl⟩ := hd 8 (by simp)
          exact rg_assign _ rfl _ (e 33 rfl) ⟨_, rfl, .quiet rfl⟩
      · intro V γ v hj h
        obtain ⟨g, h8, hg, _⟩ := h 9 (by decide)
        obtain ⟨q', ⟨hr, _⟩, g', hg', _, hx⟩ := h 10 (by decide)
        have h10 : V 11 = .int .i64 (e1) := h 11 (by decide)
        have h11 : V 12 = .bool true := h 12 (by decide)
        simp only [List.map_cons, List.map_nil, putD, Act.put, List.setIfInBounds_toArray, List.set_cons_succ, List.set_cons_zero, Nat.reduceAdd, Nat.zero_add, h8, h10, h11]
        go_wp2_with fail
        go_meet
        rw [hg] at hg'
        cases hg'
        exact ⟨g, q', rfl, rfl, rfl, Lib.hid hx, Lib.hid hr, Lib.hid hj.below⟩
    case rest =>
      obtain ⟨g1, q1, rfl, rfl, rfl, HG1, HP1, HB1⟩ := hcut
      obtain ⟨W1, hW⟩ : ∃ W, W = wc := ⟨_, rfl⟩
      subst hW
      have HB := Lib.hid (below_two HB.out HB1.out)
      have HG := Lib.hid (HG.out.below HB1.out)
      clear HB1 HPW HX
      by_cases he : e1 = 0
      · obtain ⟨hback, hdat, hcmp⟩ := HS2.out he
        subst he
        obtain ⟨nd, hnd⟩ : ∃ n, s.data.length = n := ⟨_, rfl⟩
        have hndb : nd ≤ 40 := by rw [← hnd]; exact HFS.out.few.data
        have HBK := Lib.hid hback
        have HND := Lib.hid hnd
        have HDA := Lib.hid hdat
        have HCM := Lib.hid hcmp
        have d1 : W1.cell? ⟨g1, 1, none⟩ = some (.slice q1.d nd q1.dc) := by have h := HG1.out.cell 1; rw [← show s1.data.length = nd by rw [hdat, hnd]]; exact h
        have a1 : W1.cell? ⟨w.heap.size, 1, none⟩ = some (.slice q.d nd q.dc) := by have h := HG.out.cell 1; rw [← HND.out]; exact h
        have hwd : IntKind.i64.wrap ((nd : Int) + 1) = (nd : Int) + 1 := IntWalk.i64_in _ (by omega)
        clear hback hnd hdat hcmp
        have HBL := Lib.hid (below_lit W1 (.cells (stL nilA zeroP).toArray 28))
        have HBN : Hid (Bx (W1.alloc (.cells (stL nilA zeroP).toArray 28)) W1.heap.size 28 (stL nilA zeroP)) := Lib.hid (Bx.new W1 _ _ _ _ rfl rfl)
        go_upto_region 11 with fail
        go_wp2_with (first
          | (refine wp_loadS rfl 28 _ rfl g1 rfl 28 (stL q1 s1) _ HG1.out Tryz.underlying28 rfl 15 infoSt rfl ?_)
          | (refine wp_storeS rfl 28 _ _ rfl W1.heap.size (stL q1 s1) rfl rfl 28 (stL nilA zeroP) HBN.out 15 infoSt rfl rfl (stL_one _ _) ?_))
        intro W2 hg5 hw5
        have HN2 : Hid (Below W1.heap.size W1 W2) := Lib.hid (below_grown HBL.out HBL.out.size hw5 (Nat.le_refl _))
        obtain ⟨g2, hg⟩ : ∃ g, W1.heap.size = g := ⟨_, rfl⟩
        have Hg2 : Hid (Bx W2 g2 28 (stL q1 s1)) := Lib.hid (by rw [← hg]; exact hg5)
        have hA2 : w.heap.size < g2 := by rw [← hg]; exact HG.out.lt
        have hG2 : g1 < g2 := by rw [← hg]; exact HG1.out.lt
        have hP2 : Lies q1 s1 (fun b => b < g2) := by rw [← hg]; exact HP1.out.lies
        have hPq : Lies q s (fun b => b < g2) := HP.out.lies.mono (fun b hb => by omega)
        rw [hg]
        have HB := Lib.hid (below_two HB.out HN2.out)
        have HG := Lib.hid (HG.out.below HN2.out)
        have HG1 := Lib.hid (HG1.out.below HN2.out)
        have HP1 := Lib.hid (HP1.out.below HN2.out)
        have HLP := Lib.hid (And.intro hP2 hPq)
        have a9 : W2.cell? ⟨w.heap.size, 9, none⟩ = some (.int .i64 s.pos) := HG.out.cell 9
        clear hg5 hw5 hg HBL HBN HN2 d1 a1 hP2 hPq
        go_wp2_with (refine wp_storeF rfl 3 _ _ rfl g2 9 _ rfl rfl rfl 28 _ Hg2.out 15 rfl (by decide) info1i ?_)
        intro W3 hg5 hw5
        have Hg3 : Hid (Bx W3 g2 28 ((stL q1 s1).set 9 (.int .i64 s.pos))) := Lib.hid hg5
        have HB3 := Lib.hid (below_grown HB.out HB.out.size hw5 (by omega))
        have HGa := Lib.hid (HG.out.grown hw5 (by omega))
        have HGb := Lib.hid (HG1.out.grown hw5 (by omega))
        have HPb := Lib.hid (HP1.out.grown HLP.out.1 hw5 (by omega))
        have a1 : W3.cell? ⟨w.heap.size, 1, none⟩ = some (.slice q.d nd q.dc) := by have h := HGa.out.cell 1; rw [← HND.out]; exact h
        clear hg5 hw5 a9
        go_wp2_with (refine wp_storeF rfl 23 _ _ rfl g2 1 _ rfl rfl rfl 28 _ Hg3.out 15 rfl (by decide) info1c ?_)
        intro W4 hg5 hw5
        have Hg4 : Hid (Bx W4 g2 28 (((stL q1 s1).set 9 (.int .i64 s.pos)).set 1 (.slice q.d nd q.dc))) := Lib.hid hg5
        have HB4 := Lib.hid (below_grown HB3.out HB3.out.size hw5 (by omega))
        have HGc := Lib.hid (HGa.out.grown hw5 (by omega))
        have HGd := Lib.hid (HGb.out.grown hw5 (by omega))
        have HPd := Lib.hid (HPb.out.grown HLP.out.1 hw5 (by omega))
        have a13 : W4.cell? ⟨w.heap.size, 13, none⟩ = some (.bool s.comp) := HGc.out.cell 13
        clear hg5 hw5 a1 HGa HGb HPb HB3 Hg3
        go_wp2_with (refine wp_storeF rfl 4 _ _ rfl g2 13 _ rfl rfl rfl 28 _ Hg4.out 15 rfl (by decide) info1b ?_)
        intro W5 hg5 hw5
        obtain ⟨qb, hqb⟩ : ∃ a : Ad, { q1 with d := q.d, dc := q.dc } = a := ⟨_, rfl⟩
        have Hg5 : Hid (Bx W5 g2 28 (stL qb s)) := Lib.hid (by
          have e : (((stL q1 s1).set 9 (.int .i64 s.pos)).set 1 (.slice q.d nd q.dc)).set 13 (.bool s.comp) = stL qb s := by
            rw [← hqb]
            conv => rhs; rw [← HBK.out]
            unfold stL
            simp only
            rw [HND.out]
            rfl
          rw [← e]
          exact hg5)
        have HB5 := Lib.hid (below_grown HB4.out HB4.out.size hw5 (by omega))
        have HGe := Lib.hid (HGc.out.grown hw5 (by omega))
        have HGf := Lib.hid (HGd.out.grown hw5 (by omega))
        have HPf := Lib.hid (HPd.out.grown HLP.out.1 hw5 (by omega))
        have HPB : Hid (RdP W5 qb s) := Lib.hid (by
          rw [← hqb]
          have h := ((HPf.out.withPos s.pos).withComp s.comp).withData (A := q.d) (c := q.dc) (m := s.data) (HP.out.below HB5.out).data
          have e : ({ { { s1 with pos := s.pos } with comp := s.comp } with data := s.data } : Ps) = s := HBK.out
          rw [e] at h
          exact h)
        clear hg5 hw5 hqb a13 HGc HGd HPd HB4 Hg4
        go_wp2_with (first
          | (refine wp_take rfl ?_; refine wp_loadS rfl 28 _ rfl g2 rfl 28 (stL qb s) _ Hg5.out Tryz.underlying28 rfl 15 infoSt rfl ?_)
          | (refine wp_take rfl ?_; refine wp_loadS rfl 28 _ rfl w.heap.size rfl 28 (stL q s) _ HGe.out Tryz.underlying28 rfl 15 infoSt rfl ?_))
        refine (Same_any qb q s W5 HPB.out (HP.out.below HB5.out) (by have := HFS.out.few.data; omega) (by have := HFS.out.few.ret; omega) (by have := HFS.out.few.ctl; omega) (by have := HFS.out.few.words; omega) (by have := HFS.out.few.spots; omega)).mono ?_
        rintro e u3 ⟨rfl, hb⟩
        have HBz := Lib.hid (below_two HB5.out hb)
        have HGz := Lib.hid (HGe.out.below hb)
        have HGy := Lib.hid (HGf.out.below hb)
        have d1 : u3.cell? ⟨g1, 1, none⟩ = some (.slice q1.d nd q1.dc) := by have h := HGy.out.cell 1; rw [← show s1.data.length = nd by rw [HDA.out, HND.out]]; exact h
        have a1 : u3.cell? ⟨w.heap.size, 1, none⟩ = some (.slice q.d nd q.dc) := by have h := HGz.out.cell 1; rw [← HND.out]; exact h
        have d13 : u3.cell? ⟨g1, 13, none⟩ = some (.bool false) := by have h := HGy.out.cell 13; rw [← HCM.out]; exact h
        have a13 : u3.cell? ⟨w.heap.size, 13, none⟩ = some (.bool s.comp) := HGz.out.cell 13
        clear hb
        go_wp2
        go_ret
        exact ⟨rfl, HBz.out⟩
      · have hz := HS1.out he
        subst hz
        go_wp2_with (refine wp_take rfl ?_; refine wp_loadS rfl 28 _ rfl g1 rfl 28 (stL q1 zeroP) _ HG1.out Tryz.underlying28 rfl 15 infoSt rfl ?_)
        refine (Same_is q1 nilA zeroP _ _ W1 rfl rfl HP1.out (RdP.zero W1) (by decide) (by decide) (by decide) (by decide) (by decide)).mono ?_
        rintro e u3 ⟨rfl, hb⟩
        have HBz := Lib.hid (below_two HB.out hb)
        clear hb
        go_wp2
        go_ret
        exact ⟨rfl, HBz.out⟩
set_option maxRecDepth 100000 in
set_option maxHeartbeats 8000000 in
theorem DefsStays5_walk (q : Ad) (s : Ps) (x : Sx) (n : Int) (hn : 0 ≤ n ∧ n < 256) (hrem : n.tmod 6 = 5) (w : World) (hp : RdP w q s) (hh : -9223372036854775808 ≤ s.here ∧ s.here ≤ 9223372036854775807) (ht : Tab w) :
    Calls Tryz.prog 6 #[stV q s, suV x, .int .u8 n] w fun e w' => e = .returned (.bool true) ∧ Below w.heap.size w w' := by
  have HN := Lib.hid hn
  have HP := Lib.hid hp
  have HT := Lib.hid ht
  have HH := Lib.hid hh
  have hB0 := below_two (below_lit w (.cells (stL q s).toArray 28)) (below_lit _ (.cells (suL x).toArray 30))
  have hS : Bx ((w.alloc (.cells (stL q s).toArray 28)).alloc (.cells (suL x).toArray 30)) w.heap.size 28 (stL q s) := (Bx.new w _ _ _ _ rfl rfl).alloc _
  have hX : Bx ((w.alloc (.cells (stL q s).toArray 28)).alloc (.cells (suL x).toArray 30)) (w.heap.size + 1) 30 (suL x) := Bx.new _ _ _ _ _ (by simp) rfl
  obtain ⟨W, hW⟩ : ∃ W, (w.alloc (.cells #[.slice q.m s.mem.length q.mc, .slice q.d s.data.length q.dc, .slice q.r s.ret.length q.rc, .slice q.c s.ctl.length q.cc, .slice q.w s.words.length q.wc, .slice q.s s.spots.length q.sc, .slice q.o s.out.length q.oc, .int .i64 s.ip, .int .i64 s.here, .int .i64 s.pos, .int .i64 s.tok, .int .i64 s.inp, .int .i64 s.err, .bool s.comp, .bool s.halt] 28)).alloc (.cells #[.string x.src, .slice x.iA x.iN x.iC, .int .i64 x.size, .int .i64 x.depth, .int .i64 x.room] 30) = W := ⟨_, rfl⟩
  have HB0 : Hid (Below w.heap.size w W) := Lib.hid (by rw [← hW]; exact hB0)
  have HG0 : Hid (Bx W w.heap.size 28 (stL q s)) := Lib.hid (by rw [← hW]; exact hS)
  have HX0 : Hid (Bx W (w.heap.size + 1) 30 (suL x)) := Lib.hid (by rw [← hW]; exact hX)
  have HWW := Lib.hid hW
  clear hp ht hh hB0 hS hX hW
  rw [stV_eq q s, suV_eq x]
  go_enter Tryz.func6, Tryz.ntmps6
  go_upto_region 1 with fail
  rw [HWW.out]
  go_wp2_with fail
  refine (awake_any _ (HT.out.below HB0.out)).mono ?_
  rintro e w1 ⟨rfl, hb⟩
  have HB := Lib.hid (below_two HB0.out hb)
  have HG := Lib.hid (HG0.out.below hb)
  have HX := Lib.hid (HX0.out.below hb)
  clear hb HB0 HG0 HX0 HWW
  go_wp2_with (first
    | (refine wp_loadS rfl 28 _ rfl w.heap.size rfl 28 (stL q s) _ HG.out Tryz.underlying28 rfl 15 infoSt rfl ?_)
    | (refine wp_loadS rfl 30 _ rfl (w.heap.size + 1) rfl 30 (suL x) _ HX.out Tryz.underlying30 rfl 5 infoSx rfl ?_))
  refine (Few12_any q s x w1 (HP.out.below HB.out)).mono ?_
  rintro e w2 ⟨⟨b, rfl, hf⟩, hb⟩
  have HF := Lib.hid hf
  have HB := Lib.hid (below_two HB.out hb)
  have HG := Lib.hid (HG.out.below hb)
  have HX := Lib.hid (HX.out.below hb)
  clear hb hf
  cases b with
  | false =>
    go_wp2
    go_ret
    exact ⟨rfl, HB.out⟩
  | true =>
    have hfs := HF.out rfl
    have HFS := Lib.hid hfs
    have HZ : Hid (SzD s) := Lib.hid ⟨by have := hfs.few.mem; omega, by have := hfs.few.data; omega, by have := hfs.few.spots; omega, by have := hfs.few.words; omega, by have := hfs.few.out; omega, fun y hy => by have := hfs.nms y hy; omega⟩
    clear hfs HF
    obtain ⟨s1, e1, b1, hd⟩ : ∃ a b c, doD x s 123 = (a, b, c) := ⟨_, _, _, rfl⟩
    obtain ⟨rfl, hst1, hst2⟩ := stays_123 hd
    have HD := Lib.hid hd
    have HLE : Hid (LeB s1 s 10) := Lib.hid (by have h := doD_le x s 123; rw [hd] at h; exact h)
    have HS1 := Lib.hid hst1
    have HS2 := Lib.hid hst2
    clear hd hst1 hst2
    go_wp2_with fail
    have HBA := Lib.hid (below_lit w2 (.cells #[.string ⟨#[39]⟩, .string ⟨#[67, 72, 65, 82]⟩, .string ⟨#[40]⟩, .string ⟨#[92]⟩, .string ⟨#[91]⟩, .string ⟨#[93]⟩] 9))
    obtain ⟨w3, hw3⟩ : ∃ v, w2.alloc (.cells #[.string ⟨#[39]⟩, .string ⟨#[67, 72, 65, 82]⟩, .string ⟨#[40]⟩, .string ⟨#[92]⟩, .string ⟨#[91]⟩, .string ⟨#[93]⟩] 9) = v := ⟨_, rfl⟩
    have HB := Lib.hid (below_two HB.out HBA.out)
    have HG := Lib.hid (HG.out.below HBA.out)
    have HX := Lib.hid (HX.out.below HBA.out)
    rw [hw3] at HB HG HX ⊢
    clear HBA hw3
    have HPW := Lib.hid (HP.out.below HB.out)
    go_upto_region 5 with fail
    go_cut [9, 10, 11] (fun a b c wx => ∃ (g : Nat) (q : Ad), a = .pointer (some ⟨g, 0, none⟩) ∧ b = .int .i64 (e1) ∧ c = .bool true ∧ Hid (Bx wx g 28 (stL q s1)) ∧ Hid (RdP wx q s1) ∧ Hid (Below w3.heap.size w3 wx))
    case first =>
      refine wp_region_facts (W := w3) [fVal (stV q s), fVal (suV x), fVal (.string ⟨#[93]⟩), fVal (.int .i64 123), fTup s1 [.int .i64 (e1), .bool true], fTup s1 [.int .i64 (e1), .bool true], fSt s1, fVal (.int .i64 (e1)), fVal (.bool true), fBox 18 28 (stL nilA zeroP), fSet 18 28 s1, fVal (.int .i64 (e1)), fVal (.bool true)] (fun | 3 => [2] | 4 => [0, 1, 3] | 5 => [4] | 6 => [5] | 7 => [5] | 8 => [5] | 10 => [9, 6] | 11 => [7] | 12 => [8] | _ => []) (fun | 10 => 19 | i => 2 * i) _ rfl rfl (by kernel_rfl) (by kernel_rfl) ?_ ?_ ?_
      · exact (.cons (stable_val _ _) (.cons (stable_val _ _) (.cons (stable_val _ _) (.cons (stable_val _ _) (.cons (stable_tup _ _ _) (.cons (stable_tup _ _ _) (.cons (stable_st _ _) (.cons (stable_val _ _) (.cons (stable_val _ _) (.cons (stable_box _ _ _ _) (.cons (stable_set _ _ _ _) (.cons (stable_val _ _) (.cons (stable_val _ _) AllStable.nil)))))))))))))
      · refine ⟨?_, ?_, ?_, ?_, ?_, ?_, ?_, ?_, ?_, ?_, ?_, ?_, ?_, trivial⟩
        · intro a γ v hj hu hd hf
          exact rg_load 28 _ rfl w.heap.size (hf 3 (by decide)) 28 (stL q s) _ (HG.out.below hj.below) Tryz.underlying28 rfl 15 infoSt rfl ⟨_, rfl, .quiet rfl⟩
        · intro a γ v hj hu hd hf
          exact rg_load 30 _ rfl (w.heap.size + 1) (hf 4 (by decide)) 30 (suL x) _ (HX.out.below hj.below) Tryz.underlying30 rfl 5 infoSx rfl ⟨_, rfl, .quiet rfl⟩
        · intro a γ v hj hu hd hf
          exact rg_move _ rfl _ (hf 8 (by decide)) ⟨_, rfl, .quiet rfl⟩
        · intro a γ v hj hu hd hf
          obtain ⟨_, e, rfl⟩ := hd 2 (by simp)
          refine rg_call 17 _ _ rfl #[.string ⟨#[93]⟩] (by simp [e 28 rfl]) (by go_simp) _ (Find_any ⟨#[93]⟩ 123 v (by decide +kernel) (by decide) (HT.out.below (below_two HB.out hj.below))) ?_
          rintro e w' ⟨rfl, hb⟩
          exact ⟨_, rfl, _, rfl, .grow hb rfl⟩
        · intro a γ v hj hu hd hf
          obtain ⟨x0, e0, rfl⟩ := hd 0 (by simp)
          obtain ⟨x1, e1', rfl⟩ := hd 1 (by simp)
          obtain ⟨x2, e2, rfl⟩ := hd 3 (by simp)
          refine rg_call 10 _ _ rfl #[stV q s, suV x, .int .i64 123] (by simp [e0 26 rfl, e1' 27 rfl, e2 29 rfl]) (by go_simp) _ (DoD_any 123 q s x s1 e1 true v HD.out (HPW.out.below hj.below) HFS.out.src HZ.out (HT.out.below (below_two HB.out hj.below))) ?_
          rintro e w' ⟨q', rfl, hres, hb⟩
          exact ⟨_, rfl, _, rfl, .grow hb ⟨q', rfl, .of_res hj (hj.lies_old HPW.out) hres⟩⟩
        · intro a γ v hj hu hd hf
          obtain ⟨x, e, q, rfl, hs⟩ := hd 4 (by simp)
          exact rg_move _ rfl _ (e 30 rfl) ⟨_, rfl, .quiet ⟨q, rfl, hs⟩⟩
        · intro a γ v hj hu hd hf
          obtain ⟨x, e, q, rfl, hs⟩ := hd 5 (by simp)
          exact rg_extract _ _ rfl _ (e 25 rfl) _ rfl ⟨_, rfl, .quiet ⟨q, rfl, hs⟩⟩
        · intro a γ v hj hu hd hf
          obtain ⟨x, e, q, rfl, hs⟩ := hd 5 (by simp)
          exact rg_extract _ _ rfl _ (e 25 rfl) _ rfl ⟨_, rfl, .quiet rfl⟩
        · intro a γ v hj hu hd hf
          obtain ⟨x, e, q, rfl, hs⟩ := hd 5 (by simp)
          exact rg_extract _ _ rfl _ (e 25 rfl) _ rfl ⟨_, rfl, .quiet rfl⟩
        · intro a γ v hj hu hd hf
          refine rg_alloc 28 rfl (stL nilA zeroP) (.agg (stL nilA zeroP).toArray) (by kernel_rfl) rfl ?_
          intro w' g hx hb h1 h2
          exact ⟨_, rfl, .box (by kernel_rfl) (by decide) hu hb h1 h2 hx⟩
        · intro a γ v hj hu hd hf
          obtain ⟨x1, e1, g, rfl, hg, hx⟩ := hd 9 (by simp)
          obtain ⟨x2, e2, q, rfl, hs⟩ := hd 6 (by simp)
          refine rg_store 28 _ _ rfl g (stL q s1) (e1 9 rfl) (e2 31 rfl) 28 _ (hx hu) 15 infoSt rfl rfl (stL_one q s1) ?_
          intro w' hx' hg'
          exact ⟨_, rfl, .set (k := 18) (by kernel_rfl) (by decide) rfl hg hu hg' ⟨q, GE.st (.set 18 g hg hu hg') hs, g, by rw [gset_other _ _ (by decide)]; exact hg, gset_same _ _ _, hx'⟩⟩
        · intro a γ v hj hu hd hf
          obtain ⟨x, e, rfl⟩ := hd 7 (by simp)
          exact rg_assign _ rfl _ (e 32 rfl) ⟨_, rfl, .quiet rfl⟩
        · intro a γ v hj hu hd hf
          obtain ⟨x, e, rfl⟩ := hd 8 (by simp)
          exact rg_assign _ rfl _ (e 33 rfl) ⟨_, rfl, .quiet rfl⟩
      · intro V γ v hj h
        obtain ⟨g, h8, hg, _⟩ := h 9 (by decide)
        obtain ⟨q', ⟨hr, _⟩, g', hg', _, hx⟩ := h 10 (by decide)
        have h10 : V 11 = .int .i64 (e1) := h 11 (by decide)
        have h11 : V 12 = .bool true := h 12 (by decide)
        simp only [List.map_cons, List.map_nil, putD, Act.put, List.setIfInBounds_toArray, List.set_cons_succ, List.set_cons_zero, Nat.reduceAdd, Nat.zero_add, h8, h10, h11]
        go_wp2_with fail
        go_meet
        rw [hg] at hg'
        cases hg'
        exact ⟨g, q', rfl, rfl, rfl, Lib.hid hx, Lib.hid hr, Lib.hid hj.below⟩
    case rest =>
      obtain ⟨g1, q1, rfl, rfl, rfl, HG1, HP1, HB1⟩ := hcut
      obtain ⟨W1, hW⟩ : ∃ W, W = wc := ⟨_, rfl⟩
      subst hW
      have HB := Lib.hid (below_two HB.out HB1.out)
      have HG := Lib.hid (HG.out.below HB1.out)
      clear HB1 HPW HX
      by_cases he : e1 = 0
      · obtain ⟨hback, hdat, hcmp⟩ := HS2.out he
        subst he
        obtain ⟨nd, hnd⟩ : ∃ n, s.data.length = n := ⟨_, rfl⟩
        have hndb : nd ≤ 40 := by rw [← hnd]; exact HFS.out.few.data
        have HBK := Lib.hid hback
        have HND := Lib.hid hnd
        have HDA := Lib.hid hdat
        have HCM := Lib.hid hcmp
        have d1 : W1.cell? ⟨g1, 1, none⟩ = some (.slice q1.d nd q1.dc) := by have h := HG1.out.cell 1; rw [← show s1.data.length = nd by rw [hdat, hnd]]; exact h
        have a1 : W1.cell? ⟨w.heap.size, 1, none⟩ = some (.slice q.d nd q.dc) := by have h := HG.out.cell 1; rw [← HND.out]; exact h
        have hwd : IntKind.i64.wrap ((nd : Int) + 1) = (nd : Int) + 1 := IntWalk.i64_in _ (by omega)
        clear hback hnd hdat hcmp
        have HBL := Lib.hid (below_lit W1 (.cells (stL nilA zeroP).toArray 28))
        have HBN : Hid (Bx (W1.alloc (.cells (stL nilA zeroP).toArray 28)) W1.heap.size 28 (stL nilA zeroP)) := Lib.hid (Bx.new W1 _ _ _ _ rfl rfl)
        go_upto_region 11 with fail
        go_wp2_with (first
          | (refine wp_loadS rfl 28 _ rfl g1 rfl 28 (stL q1 s1) _ HG1.out Tryz.underlying28 rfl 15 infoSt rfl ?_)
          | (refine wp_storeS rfl 28 _ _ rfl W1.heap.size (stL q1 s1) rfl rfl 28 (stL nilA zeroP) HBN.out 15 infoSt rfl rfl (stL_one _ _) ?_))
        intro W2 hg5 hw5
        have HN2 : Hid (Below W1.heap.size W1 W2) := Lib.hid (below_grown HBL.out HBL.out.size hw5 (Nat.le_refl _))
        obtain ⟨g2, hg⟩ : ∃ g, W1.heap.size = g := ⟨_, rfl⟩
        have Hg2 : Hid (Bx W2 g2 28 (stL q1 s1)) := Lib.hid (by rw [← hg]; exact hg5)
        have hA2 : w.heap.size < g2 := by rw [← hg]; exact HG.out.lt
        have hG2 : g1 < g2 := by rw [← hg]; exact HG1.out.lt
        have hP2 : Lies q1 s1 (fun b => b < g2) := by rw [← hg]; exact HP1.out.lies
        have hPq : Lies q s (fun b => b < g2) := HP.out.lies.mono (fun b hb => by omega)
        rw [hg]
        have HB := Lib.hid (below_two HB.out HN2.out)
        have HG := Lib.hid (HG.out.below HN2.out)
        have HG1 := Lib.hid (HG1.out.below HN2.out)
        have HP1 := Lib.hid (HP1.out.below HN2.out)
        have HLP := Lib.hid (And.intro hP2 hPq)
        have a9 : W2.cell? ⟨w.heap.size, 9, none⟩ = some (.int .i64 s.pos) := HG.out.cell 9
        clear hg5 hw5 hg HBL HBN HN2 d1 a1 hP2 hPq
        go_wp2_with (refine wp_storeF rfl 3 _ _ rfl g2 9 _ rfl rfl rfl 28 _ Hg2.out 15 rfl (by decide) info1i ?_)
        intro W3 hg5 hw5
        have Hg3 : Hid (Bx W3 g2 28 ((stL q1 s1).set 9 (.int .i64 s.pos))) := Lib.hid hg5
        have HB3 := Lib.hid (below_grown HB.out HB.out.size hw5 (by omega))
        have HGa := Lib.hid (HG.out.grown hw5 (by omega))
        have HGb := Lib.hid (HG1.out.grown hw5 (by omega))
        have HPb := Lib.hid (HP1.out.grown HLP.out.1 hw5 (by omega))
        have a1 : W3.cell? ⟨w.heap.size, 1, none⟩ = some (.slice q.d nd q.dc) := by have h := HGa.out.cell 1; rw [← HND.out]; exact h
        clear hg5 hw5 a9
        go_wp2_with (refine wp_storeF rfl 23 _ _ rfl g2 1 _ rfl rfl rfl 28 _ Hg3.out 15 rfl (by decide) info1c ?_)
        intro W4 hg5 hw5
        have Hg4 : Hid (Bx W4 g2 28 (((stL q1 s1).set 9 (.int .i64 s.pos)).set 1 (.slice q.d nd q.dc))) := Lib.hid hg5
        have HB4 := Lib.hid (below_grown HB3.out HB3.out.size hw5 (by omega))
        have HGc := Lib.hid (HGa.out.grown hw5 (by omega))
        have HGd := Lib.hid (HGb.out.grown hw5 (by omega))
        have HPd := Lib.hid (HPb.out.grown HLP.out.1 hw5 (by omega))
        have a13 : W4.cell? ⟨w.heap.size, 13, none⟩ = some (.bool s.comp) := HGc.out.cell 13
        clear hg5 hw5 a1 HGa HGb HPb HB3 Hg3
        go_wp2_with (refine wp_storeF rfl 4 _ _ rfl g2 13 _ rfl rfl rfl 28 _ Hg4.out 15 rfl (by decide) info1b ?_)
        intro W5 hg5 hw5
        obtain ⟨qb, hqb⟩ : ∃ a : Ad, { q1 with d := q.d, dc := q.dc } = a := ⟨_, rfl⟩
        have Hg5 : Hid (Bx W5 g2 28 (stL qb s)) := Lib.hid (by
          have e : (((stL q1 s1).set 9 (.int .i64 s.pos)).set 1 (.slice q.d nd q.dc)).set 13 (.bool s.comp) = stL qb s := by
            rw [← hqb]
            conv => rhs; rw [← HBK.out]
            unfold stL
            simp only
            rw [HND.out]
            rfl
          rw [← e]
          exact hg5)
        have HB5 := Lib.hid (below_grown HB4.out HB4.out.size hw5 (by omega))
        have HGe := Lib.hid (HGc.out.grown hw5 (by omega))
        have HGf := Lib.hid (HGd.out.grown hw5 (by omega))
        have HPf := Lib.hid (HPd.out.grown HLP.out.1 hw5 (by omega))
        have HPB : Hid (RdP W5 qb s) := Lib.hid (by
          rw [← hqb]
          have h := ((HPf.out.withPos s.pos).withComp s.comp).withData (A := q.d) (c := q.dc) (m := s.data) (HP.out.below HB5.out).data
          have e : ({ { { s1 with pos := s.pos } with comp := s.comp } with data := s.data } : Ps) = s := HBK.out
          rw [e] at h
          exact h)
        clear hg5 hw5 hqb a13 HGc HGd HPd HB4 Hg4
        go_wp2_with (first
          | (refine wp_take rfl ?_; refine wp_loadS rfl 28 _ rfl g2 rfl 28 (stL qb s) _ Hg5.out Tryz.underlying28 rfl 15 infoSt rfl ?_)
          | (refine wp_take rfl ?_; refine wp_loadS rfl 28 _ rfl w.heap.size rfl 28 (stL q s) _ HGe.out Tryz.underlying28 rfl 15 infoSt rfl ?_))
        refine (Same_any qb q s W5 HPB.out (HP.out.below HB5.out) (by have := HFS.out.few.data; omega) (by have := HFS.out.few.ret; omega) (by have := HFS.out.few.ctl; omega) (by have := HFS.out.few.words; omega) (by have := HFS.out.few.spots; omega)).mono ?_
        rintro e u3 ⟨rfl, hb⟩
        have HBz := Lib.hid (below_two HB5.out hb)
        have HGz := Lib.hid (HGe.out.below hb)
        have HGy := Lib.hid (HGf.out.below hb)
        have d1 : u3.cell? ⟨g1, 1, none⟩ = some (.slice q1.d nd q1.dc) := by have h := HGy.out.cell 1; rw [← show s1.data.length = nd by rw [HDA.out, HND.out]]; exact h
        have a1 : u3.cell? ⟨w.heap.size, 1, none⟩ = some (.slice q.d nd q.dc) := by have h := HGz.out.cell 1; rw [← HND.out]; exact h
        have d13 : u3.cell? ⟨g1, 13, none⟩ = some (.bool true) := by have h := HGy.out.cell 13; rw [← HCM.out]; exact h
        have a13 : u3.cell? ⟨w.heap.size, 13, none⟩ = some (.bool s.comp) := HGz.out.cell 13
        clear hb
        go_wp2
        go_ret
        exact ⟨rfl, HBz.out⟩
      · have hz := HS1.out he
        subst hz
        go_wp2_with (refine wp_take rfl ?_; refine wp_loadS rfl 28 _ rfl g1 rfl 28 (stL q1 zeroP) _ HG1.out Tryz.underlying28 rfl 15 infoSt rfl ?_)
        refine (Same_is q1 nilA zeroP _ _ W1 rfl rfl HP1.out (RdP.zero W1) (by decide) (by decide) (by decide) (by decide) (by decide)).mono ?_
        rintro e u3 ⟨rfl, hb⟩
        have HBz := Lib.hid (below_two HB.out hb)
        clear hb
        go_wp2
        go_ret
        exact ⟨rfl, HBz.out⟩
theorem DefsStays_walk (q : Ad) (s : Ps) (x : Sx) (n : Int) (w : World) (hp : RdP w q s) (hh : -9223372036854775808 ≤ s.here ∧ s.here ≤ 9223372036854775807) (hn : 0 ≤ n ∧ n < 256) (ht : Tab w) :
    Calls Tryz.prog 6 #[stV q s, suV x, .int .u8 n] w fun e w' => e = .returned (.bool true) ∧ Below w.heap.size w w' := by
  obtain ⟨r, hr, hr0, hr1⟩ : ∃ r : Int, n.tmod 6 = r ∧ 0 ≤ r ∧ r < 6 := ⟨_, rfl, by rw [Int.tmod_eq_emod_of_nonneg hn.1]; omega, by rw [Int.tmod_eq_emod_of_nonneg hn.1]; omega⟩
  rcases (show r = 0 ∨ r = 1 ∨ r = 2 ∨ r = 3 ∨ r = 4 ∨ r = 5 by omega) with rfl | rfl | rfl | rfl | rfl | rfl
  · exact DefsStays0_walk q s x n hn hr w hp hh ht
  · exact DefsStays1_walk q s x n hn hr w hp hh ht
  · exact DefsStays2_walk q s x n hn hr w hp hh ht
  · exact DefsStays3_walk q s x n hn hr w hp hh ht
  · exact DefsStays4_walk q s x n hn hr w hp hh ht
  · exact DefsStays5_walk q s x n hn hr w hp hh ht
end Go.Proofs.YtappfhjknihboaaGreatDoor
