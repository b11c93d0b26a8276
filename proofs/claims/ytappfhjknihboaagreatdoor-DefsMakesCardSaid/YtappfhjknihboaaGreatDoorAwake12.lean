
/- nostoslaw12: awake. -/
import Derived.Test.YtappfhjknihboaaGreatDoorDoW
import Derived.Test.YtappfhjknihboaaGreatDoorMB
import Derived.Test.YtappfhjknihboaaGreatDoorMC
import Derived.Deep.DeepCutAuto
namespace Go.Proofs.YtappfhjknihboaaGreatDoor
open Go.RowKit

def qaw (m d : Nat) : Ad := ⟨some ⟨m, 0, none⟩, 64, some ⟨d, 0, none⟩, 1, none, 0, none, 0, none, 0, none, 0, none, 0⟩
def saw : Ps := ⟨List.replicate 64 0, [5], [], [], [], [], [], 0, 3, 0, 0, 0, 0, false, false⟩
def xaw : Sx := ⟨⟨#[120]⟩, none, 0, 0, 0, 4, 0⟩
theorem isB_zero (n : Nat) : isB (List.replicate n 0) := by
  intro x hx
  rw [List.eq_of_mem_replicate hx]
  decide
theorem rd_make (w : World) (n : Nat) (h : n ≤ 1000) : RdI (w.alloc (.cells (nums .u8 (List.replicate n 0)).toArray 5 (0, 0))) .u8 (some ⟨w.heap.size, 0, none⟩) n (List.replicate n 0) :=
  rd_alloc w (nums .u8 (List.replicate n 0)) (nums .u8 (List.replicate n 0)).toArray 5 (0, 0) _ _ _ rfl (by simp [nums_length]) (by simp) (by unfold maxLen; omega)
theorem rdP_aw {w : World} {m d : Nat} (h : RdI w .u8 (some ⟨m, 0, none⟩) 64 (List.replicate 64 0)) (h2 : RdI w .i64 (some ⟨d, 0, none⟩) 1 [5]) : RdP w (qaw m d) saw :=
  ⟨h, isB_zero 64, h2, rd_nil w 2, rd_nil w 1, rd_nil w 4, rd_nil w 2, rd_nil w 1, by simp [saw, isB]⟩
theorem Cell_is (A : Option Addr) (c : Nat) (i : Int) (l : List Int) (w : World) (n : Nat) (r t : Int) (hn : l.length = n) (hr : cellR l i = r) (ht : cellE l.length i = t) (hx : RdI w .u8 A c l) (hb : isB l) :
    Calls Tryz.prog 19 #[.slice A n c, .int .i64 i] w fun e w' => e = .returned (.tuple #[.int .i64 r, .int .i64 t]) ∧ w = w' := by
  subst hn hr ht
  exact Cell_any A c i l w hx hb
theorem b1_run (a : Int) (w : World) : (Instr.buildSlice 23 1 #[(0, .int .i64 a)]).run Tryz.prog w = .ok (.slice (some ⟨w.heap.size, 0, none⟩) 1 1) (w.alloc (.cells #[.int .i64 a] 3 (0, 0))) := by
  go_simp
set_option maxRecDepth 100000 in
set_option maxHeartbeats 40000000 in
theorem awake_any (w : World) (ht : Tab w) : Calls Tryz.prog 8 #[] w fun e w' => e = .returned (.bool true) ∧ Below w.heap.size w w' := by
  have hmk : ∀ W : World, (Instr.makeSlice 22 (.int .i64 64) (.int .i64 64)).run Tryz.prog W = .ok (.slice (some ⟨W.heap.size, 0, none⟩) 64 64) (W.alloc (.cells (nums .u8 (List.replicate 64 0)).toArray 5 (0, 0))) :=
    make_nums (P := Tryz.prog) 22 5 .u8 1 Tryz.underlying22 infoU8 64 (by omega) (by omega)
  obtain ⟨s1, e1, b1, hs1⟩ : ∃ s e b, doD xaw saw 113 = (s, e, b) := ⟨_, _, _, rfl⟩
  have q1 : doD xaw saw 113 = (s1, 0, true) ∧ s1.data = [] ∧ s1.here = 32 ∧ s1.mem.length = 64 ∧ cellR s1.mem 16 = 5 ∧ s1.spots.length ≤ 10 ∧ s1.words.length = 1 ∧ s1.out.length = 0 ∧ (s1.words.all fun y => decide (y.nm.size ≤ 100)) = true := by
    have a : s1 = (doD xaw saw 113).1 := by rw [hs1]
    have b : (doD xaw saw 113).2 = (0, true) := by decide +kernel
    refine ⟨by rw [a, ← b], ?_, ?_, ?_, ?_, ?_, ?_, ?_, ?_⟩ <;> rw [a] <;> decide +kernel
  have q2 : foundC s1 ⟨#[120]⟩ = 8 ∧ foundN s1 ⟨#[120]⟩ = false ∧ foundI s1 ⟨#[120]⟩ = true := by
    have a : s1 = (doD xaw saw 113).1 := by rw [hs1]
    refine ⟨?_, ?_, ?_⟩ <;> rw [a] <;> decide +kernel
  have q3 : doD xaw s1 118 = (zeroP, -16, true) := by
    have a : s1 = (doD xaw saw 113).1 := by rw [hs1]
    have h : (tickD xaw (s1, 0)).2 = -16 := by rw [a]; decide +kernel
    have hd : doD xaw s1 118 = resF (tickD xaw (s1, 0)) := rfl
    rw [hd]
    unfold resF
    rw [if_neg (by rw [h]; decide), h]
  have q4 : SzD s1 := ⟨by rw [q1.2.2.2.1]; decide, by rw [q1.2.1]; decide, by have := q1.2.2.2.2.2.1; omega, by rw [q1.2.2.2.2.2.2.1]; decide, by rw [q1.2.2.2.2.2.2.2.1]; decide, fun y hy => by
    have h := List.all_eq_true.1 q1.2.2.2.2.2.2.2.2 y hy
    simp only [decide_eq_true_eq] at h
    omega⟩
  have Q1 := Lib.hid q1
  have Q2 := Lib.hid q2
  have Q3 := Lib.hid q3
  have Q4 := Lib.hid q4
  have HT := Lib.hid ht
  clear hs1 q1 q2 q3 q4 ht
  go_enter Tryz.func8, Tryz.ntmps8
  have hbl : ∀ (A B : Option Addr) (v : World), (Instr.build 28 #[(0, .slice A 64 64), (1, .slice B 1 1), (8, .int .i64 3)]).run Tryz.prog v = .ok (.agg #[.slice A 64 64, .slice B 1 1, .slice none 0 0, .slice none 0 0, .slice none 0 0, .slice none 0 0, .slice none 0 0, .int .i64 0, .int .i64 3, .int .i64 0, .int .i64 0, .int .i64 0, .int .i64 0, .bool false, .bool false]) v := fun A B v => by kernel_rfl
  go_wp2_with (refine wp_storeS rfl 30 _ _ rfl w.heap.size (suL xaw) rfl rfl 30 [.string ByteArray.empty, .slice none 0 0, .int .i64 0, .int .i64 0, .int .i64 0] (Bx.new w _ _ _ _ rfl rfl) 5 infoSx rfl rfl rfl ?_)
  intro w0 hg0 hw0
  have HX0 : Hid (Bx w0 w.heap.size 30 (suL xaw)) := Lib.hid hg0
  have HB0 : Hid (Below w.heap.size w w0) := Lib.hid (below_grown (below_lit w _) (below_lit w _).size hw0 (Nat.le_refl _))
  clear hg0 hw0
  go_upto_region 2 with fail
  go_cut [2, 3, 4] (fun a b c wx => ∃ (g : Nat) (q : Ad), a = .pointer (some ⟨g, 0, none⟩) ∧ b = .int .i64 0 ∧ c = .bool true ∧ Hid (Bx wx g 28 (stL q s1)) ∧ Hid (RdP wx q s1) ∧ Hid (Below w0.heap.size w0 wx))
  case first =>
    refine wp_region_facts (W := w0) [fRow 64 .u8 (List.replicate 64 0), fRow 1 .i64 [5], fSt saw, fVal (suV xaw), fVal (.int .i64 113), fTup s1 [.int .i64 (0), .bool true], fTup s1 [.int .i64 (0), .bool true], fSt s1, fVal (.int .i64 (0)), fVal (.bool true), fBox 20 28 (stL nilA zeroP), fSet 20 28 s1, fVal (.int .i64 (0)), fVal (.bool true)] (fun | 2 => [0, 1] | 5 => [2, 3, 4] | 6 => [5] | 7 => [6] | 8 => [6] | 9 => [6] | 11 => [10, 7] | 12 => [8] | 13 => [9] | _ => []) (fun | 11 => 21 | i => 2 * i) _ rfl rfl (by kernel_rfl) (by kernel_rfl) ?_ ?_ ?_
    · exact (.cons (stable_row _ _ _ _ (by decide)) (.cons (stable_row _ _ _ _ (by decide)) (.cons (stable_st _ _) (.cons (stable_val _ _) (.cons (stable_val _ _) (.cons (stable_tup _ _ _) (.cons (stable_tup _ _ _) (.cons (stable_st _ _) (.cons (stable_val _ _) (.cons (stable_val _ _) (.cons (stable_box _ _ _ _) (.cons (stable_set _ _ _ _) (.cons (stable_val _ _) (.cons (stable_val _ _) AllStable.nil))))))))))))))
    · refine ⟨?_, ?_, ?_, ?_, ?_, ?_, ?_, ?_, ?_, ?_, ?_, ?_, ?_, ?_, trivial⟩
      · intro a γ v hj hu hd hf
        exact rg_runw (.slice (some ⟨v.heap.size, 0, none⟩) 64 64) (v.alloc (.cells (nums .u8 (List.replicate 64 0)).toArray 5 (0, 0))) (by unfold execOp; simp [Act.eval, hmk]) ⟨_, rfl, .grow (below_lit _ _) ⟨v.heap.size, rfl, rd_make v 64 (by decide), fun i e => by have := (hj.lt i _ e).2; omega⟩⟩
      · intro a γ v hj hu hd hf
        exact rg_runw (.slice (some ⟨v.heap.size, 0, none⟩) 1 1) (v.alloc (.cells #[.int .i64 5] 3 (0, 0))) (by unfold execOp; simp [Act.eval, b1_run]) ⟨_, rfl, .grow (below_lit _ _) ⟨v.heap.size, rfl, rd_one v 5, fun i e => by have := (hj.lt i _ e).2; omega⟩⟩
      · intro a γ v hj hu hd hf
        obtain ⟨_, e0, m, rfl, hr, hfm⟩ := hd 0 (by simp)
        obtain ⟨_, e1, d, rfl, hr2, hfd⟩ := hd 1 (by simp)
        refine rg_run (stV (qaw m d) saw) ?_ ⟨_, rfl, .quiet ⟨_, rfl, rdP_aw hr hr2, ⟨fun _ ad e => by cases e; exact hfm, fun _ ad e => by cases e; exact hfd, fun h => absurd h (by simp [saw]), fun h => absurd h (by simp [saw]), fun h => absurd h (by simp [saw]), fun h => absurd h (by simp [saw]), fun h => absurd h (by simp [saw])⟩⟩⟩
        unfold execOp
        simp only [List.map_toArray, List.map_cons, List.map_nil, e0 15 rfl, e1 16 rfl, show a.eval (.const (.int .i64 3)) = .int .i64 3 from rfl, Sem.run_bind, hbl, Sem.run_pure, Result.andThen_ok]
        rfl
      · intro a γ v hj hu hd hf
        exact rg_load 30 _ rfl w.heap.size (hf 1 (by decide)) 30 (suL xaw) _ (HX0.out.below hj.below) Tryz.underlying30 rfl 5 infoSx rfl ⟨_, rfl, .quiet rfl⟩
      · intro a γ v hj hu hd hf
        refine rg_call 17 _ _ rfl #[.string ⟨#[67, 79, 78, 83, 84, 65, 78, 84]⟩] (by simp [Act.eval]) (by go_simp) _ (Find_any ⟨#[67, 79, 78, 83, 84, 65, 78, 84]⟩ 113 v (by decide +kernel) (by decide) (HT.out.below (below_two HB0.out hj.below))) ?_
        rintro e w' ⟨rfl, hb⟩
        exact ⟨_, rfl, _, rfl, .grow hb rfl⟩
      · intro a γ v hj hu hd hf
        obtain ⟨x2, e2, q, rfl, hr, hl⟩ := hd 2 (by simp)
        obtain ⟨x3, e3, rfl⟩ := hd 3 (by simp)
        obtain ⟨x4, e4, rfl⟩ := hd 4 (by simp)
        refine rg_call 10 _ _ rfl #[stV q saw, suV xaw, .int .i64 113] (by simp [e2 17 rfl, e3 18 rfl, e4 19 rfl]) (by go_simp) _ (DoD_any 113 q saw xaw s1 0 true v Q1.out.1 hr (by decide) ⟨by decide, by decide, by decide, by decide, by decide, fun y hy => absurd hy (by simp [saw])⟩ (HT.out.below (below_two HB0.out hj.below))) ?_
        rintro e w' ⟨q', rfl, hres, hb⟩
        exact ⟨_, rfl, _, rfl, .grow hb ⟨q', rfl, .of_res hj hl hres⟩⟩
      · intro a γ v hj hu hd hf
        obtain ⟨x, e, q, rfl, hs⟩ := hd 5 (by simp)
        exact rg_move _ rfl _ (e 20 rfl) ⟨_, rfl, .quiet ⟨q, rfl, hs⟩⟩
      · intro a γ v hj hu hd hf
        obtain ⟨x, e, q, rfl, hs⟩ := hd 6 (by simp)
        exact rg_extract _ _ rfl _ (e 14 rfl) _ rfl ⟨_, rfl, .quiet ⟨q, rfl, hs⟩⟩
      · intro a γ v hj hu hd hf
        obtain ⟨x, e, q, rfl, hs⟩ := hd 6 (by simp)
        exact rg_extract _ _ rfl _ (e 14 rfl) _ rfl ⟨_, rfl, .quiet rfl⟩
      · intro a γ v hj hu hd hf
        obtain ⟨x, e, q, rfl, hs⟩ := hd 6 (by simp)
        exact rg_extract _ _ rfl _ (e 14 rfl) _ rfl ⟨_, rfl, .quiet rfl⟩
      · intro a γ v hj hu hd hf
        refine rg_alloc 28 rfl (stL nilA zeroP) (.agg (stL nilA zeroP).toArray) (by kernel_rfl) rfl ?_
        intro w' g hx hb h1 h2
        exact ⟨_, rfl, .box (by kernel_rfl) (by decide) hu hb h1 h2 hx⟩
      · intro a γ v hj hu hd hf
        obtain ⟨x1, e1, g, rfl, hg, hx⟩ := hd 10 (by simp)
        obtain ⟨x2, e2, q, rfl, hs⟩ := hd 7 (by simp)
        refine rg_store 28 _ _ rfl g (stL q s1) (e1 2 rfl) (e2 21 rfl) 28 _ (hx hu) 15 infoSt rfl rfl (stL_one q s1) ?_
        intro w' hx' hg'
        exact ⟨_, rfl, .set (k := 20) (by kernel_rfl) (by decide) rfl hg hu hg' ⟨q, GE.st (.set 20 g hg hu hg') hs, g, by rw [gset_other _ _ (by decide)]; exact hg, gset_same _ _ _, hx'⟩⟩
      · intro a γ v hj hu hd hf
        obtain ⟨x, e, rfl⟩ := hd 8 (by simp)
        exact rg_assign _ rfl _ (e 22 rfl) ⟨_, rfl, .quiet rfl⟩
      · intro a γ v hj hu hd hf
        obtain ⟨x, e, rfl⟩ := hd 9 (by simp)
        exact rg_assign _ rfl _ (e 23 rfl) ⟨_, rfl, .quiet rfl⟩
    · intro V γ v hj h
      obtain ⟨g, h8, hg, _⟩ := h 10 (by decide)
      obtain ⟨q, ⟨hr, _⟩, g', hg', _, hx⟩ := h 11 (by decide)
      have h10 : V 12 = .int .i64 (0) := h 12 (by decide)
      have h11 : V 13 = .bool true := h 13 (by decide)
      simp only [List.map_cons, List.map_nil, putD, Act.put, List.setIfInBounds_toArray, List.set_cons_succ, List.set_cons_zero, Nat.reduceAdd, Nat.zero_add, h8, h10, h11]
      go_wp2_with fail
      go_meet
      rw [hg] at hg'
      cases hg'
      exact ⟨g, q, rfl, rfl, rfl, Lib.hid hx, Lib.hid hr, Lib.hid hj.below⟩
  case rest =>
  obtain ⟨g1, q1, rfl, rfl, rfl, HG1, HP1, HB1⟩ := hcut
  obtain ⟨W1, hW1⟩ : ∃ W, W = wc := ⟨_, rfl⟩
  subst hW1
  have HX1 := Lib.hid (HX0.out.below HB1.out)
  have HBW := Lib.hid (below_two HB0.out HB1.out)
  have d0 : W1.cell? ⟨g1, 0, none⟩ = some (.slice q1.m 64 q1.mc) := by have h := HG1.out.cell 0; rw [← Q1.out.2.2.2.1]; exact h
  go_wp2_with fail
  refine (Cell_is q1.m q1.mc 16 s1.mem W1 64 5 0 Q1.out.2.2.2.1 Q1.out.2.2.2.2.1 (by rw [Q1.out.2.2.2.1]; decide) HP1.out.mem HP1.out.memB).mono ?_
  rintro r w9 ⟨rfl, rfl⟩
  clear d0
  go_wp2_with (refine wp_loadS rfl 28 _ rfl g1 rfl 28 _ _ HG1.out Tryz.underlying28 rfl 15 infoSt rfl ?_)
  refine (Found_any q1 s1 ⟨#[120]⟩ 8 false true W1 Q2.out.1 Q2.out.2.1 Q2.out.2.2 HP1.out (by have := Q4.out.words; omega) Q4.out.nms (by decide) (HT.out.below HBW.out)).mono ?_
  rintro r W2 ⟨rfl, hb⟩
  have HG2 := Lib.hid (HG1.out.below hb)
  have HX2 := Lib.hid (HX1.out.below hb)
  have HP2 := Lib.hid (HP1.out.below hb)
  have HB2 := Lib.hid (below_two HBW.out hb)
  clear hb
  go_upto_region 5 with fail
  go_cut [10, 11, 12] (fun a b c wx => ∃ (g : Nat) (q : Ad), a = .pointer (some ⟨g, 0, none⟩) ∧ b = .int .i64 (-16) ∧ c = .bool true ∧ Hid (Bx wx g 28 (stL q zeroP)) ∧ Hid (RdP wx q zeroP) ∧ Hid (Below W2.heap.size W2 wx))
  case first =>
    refine wp_region_facts (W := W2) [fVal (stV q1 s1), fVal (suV xaw), fVal (.int .i64 118), fTup zeroP [.int .i64 (-16), .bool true], fTup zeroP [.int .i64 (-16), .bool true], fSt zeroP, fVal (.int .i64 (-16)), fVal (.bool true), fBox 16 28 (stL nilA zeroP), fSet 16 28 zeroP, fVal (.int .i64 (-16)), fVal (.bool true)] (fun | 3 => [0, 1, 2] | 4 => [3] | 5 => [4] | 6 => [4] | 7 => [4] | 9 => [8, 5] | 10 => [6] | 11 => [7] | _ => []) (fun | 9 => 17 | i => 2 * i) _ rfl rfl (by kernel_rfl) (by kernel_rfl) ?_ ?_ ?_
    · exact (.cons (stable_val _ _) (.cons (stable_val _ _) (.cons (stable_val _ _) (.cons (stable_tup _ _ _) (.cons (stable_tup _ _ _) (.cons (stable_st _ _) (.cons (stable_val _ _) (.cons (stable_val _ _) (.cons (stable_box _ _ _ _) (.cons (stable_set _ _ _ _) (.cons (stable_val _ _) (.cons (stable_val _ _) AllStable.nil))))))))))))
    · refine ⟨?_, ?_, ?_, ?_, ?_, ?_, ?_, ?_, ?_, ?_, ?_, ?_, trivial⟩
      · intro a γ v hj hu hd hf
        exact rg_load 28 _ rfl g1 (hf 2 (by decide)) 28 (stL q1 s1) _ (HG2.out.below hj.below) Tryz.underlying28 rfl 15 infoSt rfl ⟨_, rfl, .quiet rfl⟩
      · intro a γ v hj hu hd hf
        exact rg_load 30 _ rfl w.heap.size (hf 1 (by decide)) 30 (suL xaw) _ (HX2.out.below hj.below) Tryz.underlying30 rfl 5 infoSx rfl ⟨_, rfl, .quiet rfl⟩
      · intro a γ v hj hu hd hf
        refine rg_call 17 _ _ rfl #[.string ⟨#[39]⟩] (by simp [Act.eval]) (by go_simp) _ (Find_any ⟨#[39]⟩ 118 v (by decide +kernel) (by decide) (HT.out.below (below_two HB2.out hj.below))) ?_
        rintro e w' ⟨rfl, hb⟩
        exact ⟨_, rfl, _, rfl, .grow hb rfl⟩
      · intro a γ v hj hu hd hf
        obtain ⟨x0, e0, rfl⟩ := hd 0 (by simp)
        obtain ⟨x1, e1, rfl⟩ := hd 1 (by simp)
        obtain ⟨x2, e2, rfl⟩ := hd 2 (by simp)
        refine rg_call 10 _ _ rfl #[stV q1 s1, suV xaw, .int .i64 118] (by simp [e0 37 rfl, e1 38 rfl, e2 39 rfl]) (by go_simp) _ (DoD_any 118 q1 s1 xaw zeroP (-16) true v Q3.out (HP2.out.below hj.below) (by decide) Q4.out (HT.out.below (below_two HB2.out hj.below))) ?_
        rintro e w' ⟨q', rfl, hres, hb⟩
        exact ⟨_, rfl, _, rfl, .grow hb ⟨q', rfl, .of_res hj (hj.lies_old HP2.out) hres⟩⟩
      · intro a γ v hj hu hd hf
        obtain ⟨x, e, q, rfl, hs⟩ := hd 3 (by simp)
        exact rg_move _ rfl _ (e 40 rfl) ⟨_, rfl, .quiet ⟨q, rfl, hs⟩⟩
      · intro a γ v hj hu hd hf
        obtain ⟨x, e, q, rfl, hs⟩ := hd 4 (by simp)
        exact rg_extract _ _ rfl _ (e 36 rfl) _ rfl ⟨_, rfl, .quiet ⟨q, rfl, hs⟩⟩
      · intro a γ v hj hu hd hf
        obtain ⟨x, e, q, rfl, hs⟩ := hd 4 (by simp)
        exact rg_extract _ _ rfl _ (e 36 rfl) _ rfl ⟨_, rfl, .quiet rfl⟩
      · intro a γ v hj hu hd hf
        obtain ⟨x, e, q, rfl, hs⟩ := hd 4 (by simp)
        exact rg_extract _ _ rfl _ (e 36 rfl) _ rfl ⟨_, rfl, .quiet rfl⟩
      · intro a γ v hj hu hd hf
        refine rg_alloc 28 rfl (stL nilA zeroP) (.agg (stL nilA zeroP).toArray) (by kernel_rfl) rfl ?_
        intro w' g hx hb h1 h2
        exact ⟨_, rfl, .box (by kernel_rfl) (by decide) hu hb h1 h2 hx⟩
      · intro a γ v hj hu hd hf
        obtain ⟨x1, e1, g, rfl, hg, hx⟩ := hd 8 (by simp)
        obtain ⟨x2, e2, q, rfl, hs⟩ := hd 5 (by simp)
        refine rg_store 28 _ _ rfl g (stL q zeroP) (e1 10 rfl) (e2 41 rfl) 28 _ (hx hu) 15 infoSt rfl rfl (stL_one q zeroP) ?_
        intro w' hx' hg'
        exact ⟨_, rfl, .set (k := 16) (by kernel_rfl) (by decide) rfl hg hu hg' ⟨q, GE.st (.set 16 g hg hu hg') hs, g, by rw [gset_other _ _ (by decide)]; exact hg, gset_same _ _ _, hx'⟩⟩
      · intro a γ v hj hu hd hf
        obtain ⟨x, e, rfl⟩ := hd 6 (by simp)
        exact rg_assign _ rfl _ (e 42 rfl) ⟨_, rfl, .quiet rfl⟩
      · intro a γ v hj hu hd hf
        obtain ⟨x, e, rfl⟩ := hd 7 (by simp)
        exact rg_assign _ rfl _ (e 43 rfl) ⟨_, rfl, .quiet rfl⟩
    · intro V γ v hj h
      obtain ⟨g, h8, hg, _⟩ := h 8 (by decide)
      obtain ⟨q, ⟨hr, _⟩, g', hg', _, hx⟩ := h 9 (by decide)
      have h10 : V 10 = .int .i64 (-16) := h 10 (by decide)
      have h11 : V 11 = .bool true := h 11 (by decide)
      simp only [List.map_cons, List.map_nil, putD, Act.put, List.setIfInBounds_toArray, List.set_cons_succ, List.set_cons_zero, Nat.reduceAdd, Nat.zero_add, h8, h10, h11]
      go_wp2_with fail
      go_meet
      rw [hg] at hg'
      cases hg'
      exact ⟨g, q, rfl, rfl, rfl, Lib.hid hx, Lib.hid hr, Lib.hid hj.below⟩
  case rest =>
  obtain ⟨g3, q3, rfl, rfl, rfl, _, _, HB3⟩ := hcut
  obtain ⟨W3, hW3⟩ : ∃ W, W = wc := ⟨_, rfl⟩
  subst hW3
  have HG3 := Lib.hid (HG2.out.below HB3.out)
  have d1 : W3.cell? ⟨g1, 1, none⟩ = some (.slice q1.d 0 q1.dc) := by
    have h := HG3.out.cell 1
    have e : (stL q1 s1)[1]? = some (.slice q1.d 0 q1.dc) := by show some (Value.slice q1.d s1.data.length q1.dc) = _; rw [Q1.out.2.1]; rfl
    rw [e] at h
    exact h
  have d8 : W3.cell? ⟨g1, 8, none⟩ = some (.int .i64 32) := by
    have h := HG3.out.cell 8
    have e : (stL q1 s1)[8]? = some (.int .i64 32) := by show some (Value.int .i64 s1.here) = _; rw [Q1.out.2.2.1]
    rw [e] at h
    exact h
  go_wp2
  go_ret
  exact ⟨rfl, below_two HB2.out HB3.out⟩
end Go.Proofs.YtappfhjknihboaaGreatDoor
