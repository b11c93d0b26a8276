
/- nostoslaw11: awake. -/
import Derived.Test.YtfkkmlgblhnkaaaDoorDoG11
import Derived.Test.YtfkkmlgblhnkaaaDoorMB
import Derived.Test.YtfkkmlgblhnkaaaDoorMC
import Derived.Deep.DeepCutAuto
namespace Go.Proofs.YtfkkmlgblhnkaaaDoor
open Go.RowKit

def memA (A : Option Addr) (c : Nat) : Ad := ⟨A, c, none, 0, none, 0, none, 0, none, 0, none, 0, none, 0⟩
def memP (m : List Int) (here tok : Int) : Ps := ⟨m, [], [], [], [], [], [], 0, here, 0, tok, 0, 0, false, false⟩
theorem rdP_mem {w : World} {A : Option Addr} {c : Nat} {m : List Int} (h : RdI w .u8 A c m) (hb : isB m) (here tok : Int) : RdP w (memA A c) (memP m here tok) :=
  ⟨h, hb, rd_nil w 1, rd_nil w 2, rd_nil w 1, rd_nil w 4, rd_nil w 2, rd_nil w 1, by simp [memP, isB]⟩
theorem isB_zero (n : Nat) : isB (List.replicate n 0) := by
  intro x hx
  rw [List.eq_of_mem_replicate hx]
  decide
theorem rd_make (w : World) (n : Nat) (h : n ≤ 1000) : RdI (w.alloc (.cells (nums .u8 (List.replicate n 0)).toArray 5 (0, 0))) .u8 (some ⟨w.heap.size, 0, none⟩) n (List.replicate n 0) :=
  rd_alloc w (nums .u8 (List.replicate n 0)) (nums .u8 (List.replicate n 0)).toArray 5 (0, 0) _ _ _ rfl (by simp [nums_length]) (by simp) (by unfold maxLen; omega)

theorem rd_make1 (w : World) (o : Obj) : RdI ((w.alloc o).alloc (.cells (nums .u8 (List.replicate 64 0)).toArray 5 (0, 0))) .u8 (some ⟨w.heap.size + 1, 0, none⟩) 64 (List.replicate 64 0) := by
  have h := rd_make (w.alloc o) 64 (by decide)
  rw [show (w.alloc o).heap.size = w.heap.size + 1 by simp] at h
  exact h
theorem lt_make {w : World} {m : Nat} (h : RdI w .u8 (some ⟨m, 0, none⟩) 64 (List.replicate 64 0)) : m < w.heap.size := by
  obtain ⟨ad, e, hc⟩ := RdI.at_ h (j := 0) (by simp)
  cases e
  exact World.block_lt_of_cell? w _ hc
theorem rdp_setc {w : World} {q : Ad} {s : Ps} {k i : Nat} {v : Value} (h : RdP w q s) (hl : Lies q s (fun b => b ≠ k)) : RdP (w.setCell ⟨k, i, none⟩ v) q s := h.grown hl (grown_setCell w k i v) (fun h => h rfl)
/-- What a call makes of a state whose memory lies in block m lies not in block k. -/
theorem lz_mem {B m k c : Nat} {l : List Int} {h t : Int} {w : World} {q : Ad} {s : Ps} (hr : Res B (memA (some ⟨m, 0, none⟩) c) (memP l h t) w q s) (hm : m ≠ k) (hk : k < B) : Lies q s (fun b => b ≠ k) :=
  (hr.lies (fun b => b ≠ k) ⟨fun _ ad e => by cases e; exact hm, fun h => absurd h (by simp [memP]), fun h => absurd h (by simp [memP]), fun h => absurd h (by simp [memP]), fun h => absurd h (by simp [memP]), fun h => absurd h (by simp [memP]), fun h => absurd h (by simp [memP])⟩).mono (fun b hb => by omega)
theorem lz_mem1 {B m k c : Nat} {l : List Int} {h t : Int} {w wf : World} {q : Ad} {s : Ps} {ty : TypeId} {cs : List Value} (_ : Bx wf k ty cs) (hr : Res B (memA (some ⟨m, 0, none⟩) c) (memP l h t) w q s) (hm : m ≠ k) (hk : k < B) : Lies q s (fun b => b ≠ k) := lz_mem hr hm hk
theorem keepal {w w' : World} (h : Below w.heap.size w w') (o : Obj) : Below w.heap.size w (w'.alloc o) := h.alloc h.size o
theorem size_two (w : World) (a b : Obj) : ((w.alloc a).alloc b).heap.size = w.heap.size + 2 := by simp
theorem lt_two1 (w : World) (a b : Obj) : w.heap.size + 1 < ((w.alloc a).alloc b).heap.size := by
  have := size_two w a b
  omega
theorem lt_two0 (w : World) (a b : Obj) : w.heap.size < ((w.alloc a).alloc b).heap.size := by
  have := size_two w a b
  omega
theorem lt_one (w : World) (o : Obj) : w.heap.size < (w.alloc o).heap.size := by simp
theorem Cell_is (A : Option Addr) (c : Nat) (i : Int) (l : List Int) (w : World) (n : Nat) (r t : Int) (hn : l.length = n) (hr : cellR l i = r) (ht : cellE l.length i = t) (hx : RdI w .u8 A c l) (hb : isB l) :
    Calls Tryd.prog 14 #[.slice A n c, .int .i64 i] w fun e w' => e = .returned (.tuple #[.int .i64 r, .int .i64 t]) ∧ w = w' := by
  subst hn hr ht
  exact Cell_any A c i l w hx hb
theorem then_no {s : Ps} (h : s.ctl = []) : doF s 100 = (zeroP, -22, true) := by
  show resF (thenW (s, 0)) = _
  have hp : popW (s, 0) 1 = (zeroP, -22) := by unfold popW; rw [if_pos rfl, if_neg (by rw [h]; decide)]
  unfold thenW
  rw [hp]
  unfold settleW
  rw [if_neg (by decide)]
  unfold resF
  rw [if_neg (by decide)]
set_option maxRecDepth 100000 in
set_option maxHeartbeats 40000000 in
theorem awake_any (w : World) (ht : Tab w) : Calls Tryd.prog 8 #[] w fun e w' => e = .returned (.bool true) ∧ Below w.heap.size w w' := by
  have hmk : ∀ W : World, (Instr.makeSlice 22 (.int .i64 64) (.int .i64 64)).run Tryd.prog W = .ok (.slice (some ⟨W.heap.size, 0, none⟩) 64 64) (W.alloc (.cells (nums .u8 (List.replicate 64 0)).toArray 5 (0, 0))) :=
    make_nums (P := Tryd.prog) 22 5 .u8 1 Tryd.underlying22 infoU8 64 (by omega) (by omega)
  obtain ⟨s1, e1, b1, hs1⟩ : ∃ s e b, doF (memP (List.replicate 64 0) 0 0) 98 = (s, e, b) := ⟨_, _, _, rfl⟩
  obtain ⟨s2, e2, b2, hs2⟩ : ∃ s e b, doF s1 100 = (s, e, b) := ⟨_, _, _, rfl⟩
  obtain ⟨s3, e3, b3, hs3⟩ : ∃ s e b, doF s2 100 = (s, e, b) := ⟨_, _, _, rfl⟩
  obtain ⟨s4, e4, b4, hs4⟩ : ∃ s e b, doF s2 13 = (s, e, b) := ⟨_, _, _, rfl⟩
  have q1 : doF (memP (List.replicate 64 0) 0 0) 98 = (s1, 0, true) ∧ s1.ctl = [1, 8] ∧ s1.mem.length = 64 ∧ s1.spots.length ≤ 10 ∧ s1.words = [] := by
    have a : s1 = (doF (memP (List.replicate 64 0) 0 0) 98).1 := by rw [hs1]
    have b : (doF (memP (List.replicate 64 0) 0 0) 98).2 = (0, true) := by decide +kernel
    refine ⟨by rw [a, ← b], ?_, ?_, ?_, ?_⟩ <;> rw [a] <;> decide +kernel
  have q2 : doF s1 100 = (s2, 0, true) ∧ s2.ctl = [] ∧ s2.mem.length = 64 ∧ s2.spots.length ≤ 10 ∧ s2.words = [] ∧ cellR s2.mem 8 = 16 := by
    have a0 : s1 = (doF (memP (List.replicate 64 0) 0 0) 98).1 := by rw [hs1]
    have a : s2 = (doF (doF (memP (List.replicate 64 0) 0 0) 98).1 100).1 := by rw [← a0, hs2]
    have b : (doF s1 100).2 = (0, true) := by rw [a0]; decide +kernel
    refine ⟨by rw [hs2] at b ⊢; injection b with b1 b2; rw [b1, b2], ?_, ?_, ?_, ?_, ?_⟩ <;> rw [a] <;> decide +kernel
  have q3 : doF s2 100 = (zeroP, -22, true) ∧ doF s2 13 = (zeroP, 0, false) := by
    refine ⟨?_, ?_⟩
    · have h := then_no q2.2.1
      exact h
    · rfl
  have Q1 := Lib.hid q1
  have Q2 := Lib.hid q2
  have Q3 := Lib.hid q3
  have HT := Lib.hid ht
  have HB0 := Lib.hid (Below.refl w.heap.size w)
  clear hs1 hs2 hs3 hs4 q1 q2 q3 ht
  go_enter Tryd.func8, Tryd.ntmps8
  have hbl : ∀ (A : Option Addr) (v : World), (Instr.build 28 #[(0, .slice A 64 64)]).run Tryd.prog v = .ok (.agg #[.slice A 64 64, .slice none 0 0, .slice none 0 0, .slice none 0 0, .slice none 0 0, .slice none 0 0, .slice none 0 0, .int .i64 0, .int .i64 0, .int .i64 0, .int .i64 0, .int .i64 0, .int .i64 0, .bool false, .bool false]) v := fun A v => by kernel_rfl
  go_upto_region 1 with fail
  go_cut [1, 2, 3] (fun a b c wx => ∃ (g : Nat) (q : Ad), a = .pointer (some ⟨g, 0, none⟩) ∧ b = .int .i64 0 ∧ c = .bool true ∧ Hid (Bx wx g 28 (stL q s1)) ∧ Hid (RdP wx q s1) ∧ Hid (Below w.heap.size w wx))
  case first =>
    refine wp_region_facts (W := w) [fRow 64 .u8 (List.replicate 64 0), fSt (memP (List.replicate 64 0) 0 0), fVal (.int .i64 98), fTup s1 [.int .i64 0, .bool true], fTup s1 [.int .i64 0, .bool true], fSt s1, fVal (.int .i64 0), fVal (.bool true),
        fBox 16 28 (stL nilA zeroP), fSet 16 28 s1, fVal (.int .i64 0), fVal (.bool true)]
      (fun | 1 => [0] | 3 => [1, 2] | 4 => [3] | 5 => [4] | 6 => [4] | 7 => [4] | 9 => [8, 5] | 10 => [6] | 11 => [7] | _ => [])
      (fun | 9 => 17 | i => 2 * i) _ rfl
      rfl (by kernel_rfl) (by kernel_rfl) ?_ ?_ ?_
    · exact .cons (stable_row _ _ _ _ (by decide)) (.cons (stable_st _ _) (.cons (stable_val _ _) (.cons (stable_tup _ _ _) (.cons (stable_tup _ _ _) (.cons (stable_st _ _) (.cons (stable_val _ _) (.cons (stable_val _ _) (.cons (stable_box _ _ _ _) (.cons (stable_set _ _ _ _) (.cons (stable_val _ _) (.cons (stable_val _ _) .nil)))))))))))
    · refine ⟨?_, ?_, ?_, ?_, ?_, ?_, ?_, ?_, ?_, ?_, ?_, ?_, trivial⟩
      · intro a γ v hj hu hd hf
        exact rg_runw (.slice (some ⟨v.heap.size, 0, none⟩) 64 64) (v.alloc (.cells (nums .u8 (List.replicate 64 0)).toArray 5 (0, 0))) (by unfold execOp; simp [Act.eval, hmk]) ⟨_, rfl, .grow (below_lit _ _) ⟨v.heap.size, rfl, rd_make v 64 (by decide), fun i e => by have := (hj.lt i _ e).2; omega⟩⟩
      · intro a γ v hj hu hd hf
        obtain ⟨x0, e0, m, rfl, hr, hfm⟩ := hd 0 (by simp)
        refine rg_run (stV (memA (some ⟨m, 0, none⟩) 64) (memP (List.replicate 64 0) 0 0)) ?_ ⟨_, rfl, .quiet ⟨_, rfl, rdP_mem hr (isB_zero 64) 0 0, ⟨fun _ ad e => by cases e; exact hfm, fun h => absurd h (by simp [memP]), fun h => absurd h (by simp [memP]), fun h => absurd h (by simp [memP]), fun h => absurd h (by simp [memP]), fun h => absurd h (by simp [memP]), fun h => absurd h (by simp [memP])⟩⟩⟩
        have e := e0 16 rfl
        unfold execOp
        simp only [List.map_toArray, List.map_cons, List.map_nil, e, Sem.run_bind, hbl, Sem.run_pure, Result.andThen_ok]
        rfl
      · intro a γ v hj hu hd hf
        refine rg_call 16 _ _ rfl #[.string ⟨#[73, 70]⟩] (by simp [Act.eval]) (by go_simp) _ (Find_any ⟨#[73, 70]⟩ 98 v (by decide +kernel) (by decide) (HT.out.below hj.below)) ?_
        rintro e w' ⟨rfl, hb⟩
        exact ⟨_, rfl, _, rfl, .grow hb rfl⟩
      · intro a γ v hj hu hd hf
        obtain ⟨x1, e1, q, rfl, hr, hl⟩ := hd 1 (by simp)
        obtain ⟨x2, e2, rfl⟩ := hd 2 (by simp)
        refine rg_call 10 _ _ rfl #[stV q (memP (List.replicate 64 0) 0 0), .int .i64 98] (by simp [e1 17 rfl, e2 18 rfl]) (by go_simp) _ (DoF_any 98 q _ s1 0 true v Q1.out.1 hr ⟨by decide, by decide, by decide⟩ (by decide) (HT.out.below hj.below)) ?_
        rintro e w' ⟨q', rfl, hres, hb⟩
        exact ⟨_, rfl, _, rfl, .grow hb ⟨q', rfl, .of_res hj hl hres⟩⟩
      · intro a γ v hj hu hd hf
        obtain ⟨x, e, q, rfl, hs⟩ := hd 3 (by simp)
        exact rg_move _ rfl _ (e 19 rfl) ⟨_, rfl, .quiet ⟨q, rfl, hs⟩⟩
      · intro a γ v hj hu hd hf
        obtain ⟨x, e, q, rfl, hs⟩ := hd 4 (by simp)
        exact rg_extract _ _ rfl _ (e 15 rfl) _ rfl ⟨_, rfl, .quiet ⟨q, rfl, hs⟩⟩
      · intro a γ v hj hu hd hf
        obtain ⟨x, e, q, rfl, hs⟩ := hd 4 (by simp)
        exact rg_extract _ _ rfl _ (e 15 rfl) _ rfl ⟨_, rfl, .quiet rfl⟩
      · intro a γ v hj hu hd hf
        obtain ⟨x, e, q, rfl, hs⟩ := hd 4 (by simp)
        exact rg_extract _ _ rfl _ (e 15 rfl) _ rfl ⟨_, rfl, .quiet rfl⟩
      · intro a γ v hj hu hd hf
        refine rg_alloc 28 rfl (stL nilA zeroP) (.agg (stL nilA zeroP).toArray) (by kernel_rfl) rfl ?_
        intro w' g hx hb h1 h2
        exact ⟨_, rfl, .box (by kernel_rfl) (by decide) hu hb h1 h2 hx⟩
      · intro a γ v hj hu hd hf
        obtain ⟨x1, e1, g, rfl, hg, hx⟩ := hd 8 (by simp)
        obtain ⟨x2, e2, q, rfl, hs⟩ := hd 5 (by simp)
        refine rg_store 28 _ _ rfl g (stL q s1) (e1 1 rfl) (e2 20 rfl) 28 _ (hx hu) 15 infoSt rfl rfl (stL_one q s1) ?_
        intro w' hx' hg'
        exact ⟨_, rfl, .set (k := 16) (by kernel_rfl) (by decide) rfl hg hu hg' ⟨q, GE.st (.set 16 g hg hu hg') hs, g, by rw [gset_other _ _ (by decide)]; exact hg, gset_same _ _ _, hx'⟩⟩
      · intro a γ v hj hu hd hf
        obtain ⟨x, e, rfl⟩ := hd 6 (by simp)
        exact rg_assign _ rfl _ (e 21 rfl) ⟨_, rfl, .quiet rfl⟩
      · intro a γ v hj hu hd hf
        obtain ⟨x, e, rfl⟩ := hd 7 (by simp)
        exact rg_assign _ rfl _ (e 22 rfl) ⟨_, rfl, .quiet rfl⟩
    · intro V γ v hj h
      obtain ⟨g, h8, hg, _⟩ := h 8 (by decide)
      obtain ⟨q, ⟨hr, _⟩, g', hg', _, hx⟩ := h 9 (by decide)
      have h10 : V 10 = .int .i64 0 := h 10 (by decide)
      have h11 : V 11 = .bool true := h 11 (by decide)
      simp only [List.map_cons, List.map_nil, putD, Act.put, List.setIfInBounds_toArray, List.set_cons_succ, List.set_cons_zero, Nat.reduceAdd, Nat.zero_add, h8, h10, h11]
      go_wp2_with fail
      go_meet
      rw [hg] at hg'
      cases hg'
      exact ⟨g, q, rfl, rfl, rfl, Lib.hid hx, Lib.hid hr, Lib.hid hj.below⟩
  case rest =>
  obtain ⟨g1, q1, rfl, rfl, rfl, HG1, HP1, HB1⟩ := hcut
  obtain ⟨W1, hW1⟩ : ∃ W, W = wc := ⟨_, rfl⟩
  subst hW1
  have HX1 := HB1
  clear hmk
  go_upto_region 2 with fail
  go_cut [4, 5, 6] (fun a b c wx => ∃ (g : Nat) (q : Ad), a = .pointer (some ⟨g, 0, none⟩) ∧ b = .int .i64 (0) ∧ c = .bool true ∧ Hid (Bx wx g 28 (stL q s2)) ∧ Hid (RdP wx q s2) ∧ Hid (Below W1.heap.size W1 wx))
  case first =>
    refine wp_region_facts (W := W1) [fVal (stV q1 s1), fVal (.int .i64 100), fTup s2 [.int .i64 (0), .bool true], fTup s2 [.int .i64 (0), .bool true], fSt s2, fVal (.int .i64 (0)), fVal (.bool true),
        fBox 14 28 (stL nilA zeroP), fSet 14 28 s2, fVal (.int .i64 (0)), fVal (.bool true)]
      (fun | 2 => [0, 1] | 3 => [2] | 4 => [3] | 5 => [3] | 6 => [3] | 8 => [7, 4] | 9 => [5] | 10 => [6] | _ => [])
      (fun | 8 => 15 | i => 2 * i) _ rfl
      rfl (by kernel_rfl) (by kernel_rfl) ?_ ?_ ?_
    · exact .cons (stable_val _ _) (.cons (stable_val _ _) (.cons (stable_tup _ _ _) (.cons (stable_tup _ _ _) (.cons (stable_st _ _) (.cons (stable_val _ _) (.cons (stable_val _ _) (.cons (stable_box _ _ _ _) (.cons (stable_set _ _ _ _) (.cons (stable_val _ _) (.cons (stable_val _ _) .nil))))))))))
    · refine ⟨?_, ?_, ?_, ?_, ?_, ?_, ?_, ?_, ?_, ?_, ?_, trivial⟩
      · intro a γ v hj hu hd hf
        exact rg_load 28 _ rfl g1 (hf 1 (by decide)) 28 (stL q1 s1) _ (HG1.out.below hj.below) Tryd.underlying28 rfl 15 infoSt rfl ⟨_, rfl, .quiet rfl⟩
      · intro a γ v hj hu hd hf
        refine rg_call 16 _ _ rfl #[.string ⟨#[84, 72, 69, 78]⟩] (by simp [Act.eval]) (by go_simp) _ (Find_any ⟨#[84, 72, 69, 78]⟩ 100 v (by decide +kernel) (by decide) (HT.out.below (below_two HX1.out hj.below))) ?_
        rintro e w' ⟨rfl, hb⟩
        exact ⟨_, rfl, _, rfl, .grow hb rfl⟩
      · intro a γ v hj hu hd hf
        obtain ⟨x1, e1, rfl⟩ := hd 0 (by simp)
        obtain ⟨x2, e2, rfl⟩ := hd 1 (by simp)
        refine rg_call 10 _ _ rfl #[stV q1 s1, .int .i64 100] (by simp [e1 24 rfl, e2 25 rfl]) (by go_simp) _ (DoF_any 100 q1 s1 s2 (0) true v Q2.out.1 (HP1.out.below hj.below) ⟨by rw [Q1.out.2.2.1]; decide, by have := Q1.out.2.2.2.1; omega, by rw [Q1.out.2.1]; decide⟩ (by rw [Q1.out.2.2.2.2]; decide) (HT.out.below (below_two HX1.out hj.below))) ?_
        rintro e w' ⟨q', rfl, hres, hb⟩
        exact ⟨_, rfl, _, rfl, .grow hb ⟨q', rfl, .of_res hj (hj.lies_old HP1.out) hres⟩⟩
      · intro a γ v hj hu hd hf
        obtain ⟨x, e, q, rfl, hs⟩ := hd 2 (by simp)
        exact rg_move _ rfl _ (e 26 rfl) ⟨_, rfl, .quiet ⟨q, rfl, hs⟩⟩
      · intro a γ v hj hu hd hf
        obtain ⟨x, e, q, rfl, hs⟩ := hd 3 (by simp)
        exact rg_extract _ _ rfl _ (e 23 rfl) _ rfl ⟨_, rfl, .quiet ⟨q, rfl, hs⟩⟩
      · intro a γ v hj hu hd hf
        obtain ⟨x, e, q, rfl, hs⟩ := hd 3 (by simp)
        exact rg_extract _ _ rfl _ (e 23 rfl) _ rfl ⟨_, rfl, .quiet rfl⟩
      · intro a γ v hj hu hd hf
        obtain ⟨x, e, q, rfl, hs⟩ := hd 3 (by simp)
        exact rg_extract _ _ rfl _ (e 23 rfl) _ rfl ⟨_, rfl, .quiet rfl⟩
      · intro a γ v hj hu hd hf
        refine rg_alloc 28 rfl (stL nilA zeroP) (.agg (stL nilA zeroP).toArray) (by kernel_rfl) rfl ?_
        intro w' g hx hb h1 h2
        exact ⟨_, rfl, .box (by kernel_rfl) (by decide) hu hb h1 h2 hx⟩
      · intro a γ v hj hu hd hf
        obtain ⟨x1, e1, g, rfl, hg, hx⟩ := hd 7 (by simp)
        obtain ⟨x2, e2, q, rfl, hs⟩ := hd 4 (by simp)
        refine rg_store 28 _ _ rfl g (stL q s2) (e1 4 rfl) (e2 27 rfl) 28 _ (hx hu) 15 infoSt rfl rfl (stL_one q s2) ?_
        intro w' hx' hg'
        exact ⟨_, rfl, .set (k := 14) (by kernel_rfl) (by decide) rfl hg hu hg' ⟨q, GE.st (.set 14 g hg hu hg') hs, g, by rw [gset_other _ _ (by decide)]; exact hg, gset_same _ _ _, hx'⟩⟩
      · intro a γ v hj hu hd hf
        obtain ⟨x, e, rfl⟩ := hd 5 (by simp)
        exact rg_assign _ rfl _ (e 28 rfl) ⟨_, rfl, .quiet rfl⟩
      · intro a γ v hj hu hd hf
        obtain ⟨x, e, rfl⟩ := hd 6 (by simp)
        exact rg_assign _ rfl _ (e 29 rfl) ⟨_, rfl, .quiet rfl⟩
    · intro V γ v hj h
      obtain ⟨g, h8, hg, _⟩ := h 7 (by decide)
      obtain ⟨q, ⟨hr, _⟩, g', hg', _, hx⟩ := h 8 (by decide)
      have h10 : V 9 = .int .i64 (0) := h 9 (by decide)
      have h11 : V 10 = .bool true := h 10 (by decide)
      simp only [List.map_cons, List.map_nil, putD, Act.put, List.setIfInBounds_toArray, List.set_cons_succ, List.set_cons_zero, Nat.reduceAdd, Nat.zero_add, h8, h10, h11]
      go_wp2_with fail
      go_meet
      rw [hg] at hg'
      cases hg'
      exact ⟨g, q, rfl, rfl, rfl, Lib.hid hx, Lib.hid hr, Lib.hid hj.below⟩
  case rest =>
  obtain ⟨g2, q2, rfl, rfl, rfl, HG2, HP2, HB2⟩ := hcut
  obtain ⟨W2, hW2⟩ : ∃ W, W = wc := ⟨_, rfl⟩
  subst hW2
  have HX2 := Lib.hid (below_two HX1.out HB2.out)
  go_upto_region 3 with fail
  go_cut [7, 8, 9] (fun a b c wx => ∃ (g : Nat) (q : Ad), a = .pointer (some ⟨g, 0, none⟩) ∧ b = .int .i64 (-22) ∧ c = .bool true ∧ Hid (Bx wx g 28 (stL q zeroP)) ∧ Hid (RdP wx q zeroP) ∧ Hid (Below W2.heap.size W2 wx))
  case first =>
    refine wp_region_facts (W := W2) [fVal (stV q2 s2), fVal (.int .i64 100), fTup zeroP [.int .i64 (-22), .bool true], fTup zeroP [.int .i64 (-22), .bool true], fSt zeroP, fVal (.int .i64 (-22)), fVal (.bool true),
        fBox 14 28 (stL nilA zeroP), fSet 14 28 zeroP, fVal (.int .i64 (-22)), fVal (.bool true)]
      (fun | 2 => [0, 1] | 3 => [2] | 4 => [3] | 5 => [3] | 6 => [3] | 8 => [7, 4] | 9 => [5] | 10 => [6] | _ => [])
      (fun | 8 => 15 | i => 2 * i) _ rfl
      rfl (by kernel_rfl) (by kernel_rfl) ?_ ?_ ?_
    · exact .cons (stable_val _ _) (.cons (stable_val _ _) (.cons (stable_tup _ _ _) (.cons (stable_tup _ _ _) (.cons (stable_st _ _) (.cons (stable_val _ _) (.cons (stable_val _ _) (.cons (stable_box _ _ _ _) (.cons (stable_set _ _ _ _) (.cons (stable_val _ _) (.cons (stable_val _ _) .nil))))))))))
    · refine ⟨?_, ?_, ?_, ?_, ?_, ?_, ?_, ?_, ?_, ?_, ?_, trivial⟩
      · intro a γ v hj hu hd hf
        exact rg_load 28 _ rfl g2 (hf 4 (by decide)) 28 (stL q2 s2) _ (HG2.out.below hj.below) Tryd.underlying28 rfl 15 infoSt rfl ⟨_, rfl, .quiet rfl⟩
      · intro a γ v hj hu hd hf
        refine rg_call 16 _ _ rfl #[.string ⟨#[84, 72, 69, 78]⟩] (by simp [Act.eval]) (by go_simp) _ (Find_any ⟨#[84, 72, 69, 78]⟩ 100 v (by decide +kernel) (by decide) (HT.out.below (below_two HX2.out hj.below))) ?_
        rintro e w' ⟨rfl, hb⟩
        exact ⟨_, rfl, _, rfl, .grow hb rfl⟩
      · intro a γ v hj hu hd hf
        obtain ⟨x1, e1, rfl⟩ := hd 0 (by simp)
        obtain ⟨x2, e2, rfl⟩ := hd 1 (by simp)
        refine rg_call 10 _ _ rfl #[stV q2 s2, .int .i64 100] (by simp [e1 31 rfl, e2 32 rfl]) (by go_simp) _ (DoF_any 100 q2 s2 zeroP (-22) true v Q3.out.1 (HP2.out.below hj.below) ⟨by rw [Q2.out.2.2.1]; decide, by have := Q2.out.2.2.2.1; omega, by rw [Q2.out.2.1]; decide⟩ (by rw [Q2.out.2.2.2.2.1]; decide) (HT.out.below (below_two HX2.out hj.below))) ?_
        rintro e w' ⟨q', rfl, hres, hb⟩
        exact ⟨_, rfl, _, rfl, .grow hb ⟨q', rfl, .of_res hj (hj.lies_old HP2.out) hres⟩⟩
      · intro a γ v hj hu hd hf
        obtain ⟨x, e, q, rfl, hs⟩ := hd 2 (by simp)
        exact rg_move _ rfl _ (e 33 rfl) ⟨_, rfl, .quiet ⟨q, rfl, hs⟩⟩
      · intro a γ v hj hu hd hf
        obtain ⟨x, e, q, rfl, hs⟩ := hd 3 (by simp)
        exact rg_extract _ _ rfl _ (e 30 rfl) _ rfl ⟨_, rfl, .quiet ⟨q, rfl, hs⟩⟩
      · intro a γ v hj hu hd hf
        obtain ⟨x, e, q, rfl, hs⟩ := hd 3 (by simp)
        exact rg_extract _ _ rfl _ (e 30 rfl) _ rfl ⟨_, rfl, .quiet rfl⟩
      · intro a γ v hj hu hd hf
        obtain ⟨x, e, q, rfl, hs⟩ := hd 3 (by simp)
        exact rg_extract _ _ rfl _ (e 30 rfl) _ rfl ⟨_, rfl, .quiet rfl⟩
      · intro a γ v hj hu hd hf
        refine rg_alloc 28 rfl (stL nilA zeroP) (.agg (stL nilA zeroP).toArray) (by kernel_rfl) rfl ?_
        intro w' g hx hb h1 h2
        exact ⟨_, rfl, .box (by kernel_rfl) (by decide) hu hb h1 h2 hx⟩
      · intro a γ v hj hu hd hf
        obtain ⟨x1, e1, g, rfl, hg, hx⟩ := hd 7 (by simp)
        obtain ⟨x2, e2, q, rfl, hs⟩ := hd 4 (by simp)
        refine rg_store 28 _ _ rfl g (stL q zeroP) (e1 7 rfl) (e2 34 rfl) 28 _ (hx hu) 15 infoSt rfl rfl (stL_one q zeroP) ?_
        intro w' hx' hg'
        exact ⟨_, rfl, .set (k := 14) (by kernel_rfl) (by decide) rfl hg hu hg' ⟨q, GE.st (.set 14 g hg hu hg') hs, g, by rw [gset_other _ _ (by decide)]; exact hg, gset_same _ _ _, hx'⟩⟩
      · intro a γ v hj hu hd hf
        obtain ⟨x, e, rfl⟩ := hd 5 (by simp)
        exact rg_assign _ rfl _ (e 35 rfl) ⟨_, rfl, .quiet rfl⟩
      · intro a γ v hj hu hd hf
        obtain ⟨x, e, rfl⟩ := hd 6 (by simp)
        exact rg_assign _ rfl _ (e 36 rfl) ⟨_, rfl, .quiet rfl⟩
    · intro V γ v hj h
      obtain ⟨g, h8, hg, _⟩ := h 7 (by decide)
      obtain ⟨q, ⟨hr, _⟩, g', hg', _, hx⟩ := h 8 (by decide)
      have h10 : V 9 = .int .i64 (-22) := h 9 (by decide)
      have h11 : V 10 = .bool true := h 10 (by decide)
      simp only [List.map_cons, List.map_nil, putD, Act.put, List.setIfInBounds_toArray, List.set_cons_succ, List.set_cons_zero, Nat.reduceAdd, Nat.zero_add, h8, h10, h11]
      go_wp2_with fail
      go_meet
      rw [hg] at hg'
      cases hg'
      exact ⟨g, q, rfl, rfl, rfl, Lib.hid hx, Lib.hid hr, Lib.hid hj.below⟩
  case rest =>
  obtain ⟨g3, q3, rfl, rfl, rfl, HG3, HP3, HB3⟩ := hcut
  obtain ⟨W3, hW3⟩ : ∃ W, W = wc := ⟨_, rfl⟩
  subst hW3
  have HX3 := Lib.hid (below_two HX2.out HB3.out)
  have HG2 := Lib.hid (HG2.out.below HB3.out)
  have HP2 := Lib.hid (HP2.out.below HB3.out)
  go_upto_region 4 with fail
  go_cut [10, 11, 12] (fun a b c wx => ∃ (g : Nat) (q : Ad), a = .pointer (some ⟨g, 0, none⟩) ∧ b = .int .i64 (0) ∧ c = .bool false ∧ Hid (Bx wx g 28 (stL q zeroP)) ∧ Hid (RdP wx q zeroP) ∧ Hid (Below W3.heap.size W3 wx))
  case first =>
    refine wp_region_facts (W := W3) [fVal (stV q2 s2), fVal (.int .i64 13), fTup zeroP [.int .i64 (0), .bool false], fTup zeroP [.int .i64 (0), .bool false], fSt zeroP, fVal (.int .i64 (0)), fVal (.bool false),
        fBox 14 28 (stL nilA zeroP), fSet 14 28 zeroP, fVal (.int .i64 (0)), fVal (.bool false)]
      (fun | 2 => [0, 1] | 3 => [2] | 4 => [3] | 5 => [3] | 6 => [3] | 8 => [7, 4] | 9 => [5] | 10 => [6] | _ => [])
      (fun | 8 => 15 | i => 2 * i) _ rfl
      rfl (by kernel_rfl) (by kernel_rfl) ?_ ?_ ?_
    · exact .cons (stable_val _ _) (.cons (stable_val _ _) (.cons (stable_tup _ _ _) (.cons (stable_tup _ _ _) (.cons (stable_st _ _) (.cons (stable_val _ _) (.cons (stable_val _ _) (.cons (stable_box _ _ _ _) (.cons (stable_set _ _ _ _) (.cons (stable_val _ _) (.cons (stable_val _ _) .nil))))))))))
    · refine ⟨?_, ?_, ?_, ?_, ?_, ?_, ?_, ?_, ?_, ?_, ?_, trivial⟩
      · intro a γ v hj hu hd hf
        exact rg_load 28 _ rfl g2 (hf 4 (by decide)) 28 (stL q2 s2) _ (HG2.out.below hj.below) Tryd.underlying28 rfl 15 infoSt rfl ⟨_, rfl, .quiet rfl⟩
      · intro a γ v hj hu hd hf
        refine rg_call 16 _ _ rfl #[.string ⟨#[68, 85, 80]⟩] (by simp [Act.eval]) (by go_simp) _ (Find_any ⟨#[68, 85, 80]⟩ 13 v (by decide +kernel) (by decide) (HT.out.below (below_two HX3.out hj.below))) ?_
        rintro e w' ⟨rfl, hb⟩
        exact ⟨_, rfl, _, rfl, .grow hb rfl⟩
      · intro a γ v hj hu hd hf
        obtain ⟨x1, e1, rfl⟩ := hd 0 (by simp)
        obtain ⟨x2, e2, rfl⟩ := hd 1 (by simp)
        refine rg_call 10 _ _ rfl #[stV q2 s2, .int .i64 13] (by simp [e1 38 rfl, e2 39 rfl]) (by go_simp) _ (DoF_any 13 q2 s2 zeroP (0) false v Q3.out.2 (HP2.out.below hj.below) ⟨by rw [Q2.out.2.2.1]; decide, by have := Q2.out.2.2.2.1; omega, by rw [Q2.out.2.1]; decide⟩ (by rw [Q2.out.2.2.2.2.1]; decide) (HT.out.below (below_two HX3.out hj.below))) ?_
        rintro e w' ⟨q', rfl, hres, hb⟩
        exact ⟨_, rfl, _, rfl, .grow hb ⟨q', rfl, .of_res hj (hj.lies_old HP2.out) hres⟩⟩
      · intro a γ v hj hu hd hf
        obtain ⟨x, e, q, rfl, hs⟩ := hd 2 (by simp)
        exact rg_move _ rfl _ (e 40 rfl) ⟨_, rfl, .quiet ⟨q, rfl, hs⟩⟩
      · intro a γ v hj hu hd hf
        obtain ⟨x, e, q, rfl, hs⟩ := hd 3 (by simp)
        exact rg_extract _ _ rfl _ (e 37 rfl) _ rfl ⟨_, rfl, .quiet ⟨q, rfl, hs⟩⟩
      · intro a γ v hj hu hd hf
        obtain ⟨x, e, q, rfl, hs⟩ := hd 3 (by simp)
        exact rg_extract _ _ rfl _ (e 37 rfl) _ rfl ⟨_, rfl, .quiet rfl⟩
      · intro a γ v hj hu hd hf
        obtain ⟨x, e, q, rfl, hs⟩ := hd 3 (by simp)
        exact rg_extract _ _ rfl _ (e 37 rfl) _ rfl ⟨_, rfl, .quiet rfl⟩
      · intro a γ v hj hu hd hf
        refine rg_alloc 28 rfl (stL nilA zeroP) (.agg (stL nilA zeroP).toArray) (by kernel_rfl) rfl ?_
        intro w' g hx hb h1 h2
        exact ⟨_, rfl, .box (by kernel_rfl) (by decide) hu hb h1 h2 hx⟩
      · intro a γ v hj hu hd hf
        obtain ⟨x1, e1, g, rfl, hg, hx⟩ := hd 7 (by simp)
        obtain ⟨x2, e2, q, rfl, hs⟩ := hd 4 (by simp)
        refine rg_store 28 _ _ rfl g (stL q zeroP) (e1 10 rfl) (e2 41 rfl) 28 _ (hx hu) 15 infoSt rfl rfl (stL_one q zeroP) ?_
        intro w' hx' hg'
        exact ⟨_, rfl, .set (k := 14) (by kernel_rfl) (by decide) rfl hg hu hg' ⟨q, GE.st (.set 14 g hg hu hg') hs, g, by rw [gset_other _ _ (by decide)]; exact hg, gset_same _ _ _, hx'⟩⟩
      · intro a γ v hj hu hd hf
        obtain ⟨x, e, rfl⟩ := hd 5 (by simp)
        exact rg_assign _ rfl _ (e 42 rfl) ⟨_, rfl, .quiet rfl⟩
      · intro a γ v hj hu hd hf
        obtain ⟨x, e, rfl⟩ := hd 6 (by simp)
        exact rg_assign _ rfl _ (e 43 rfl) ⟨_, rfl, .quiet rfl⟩
    · intro V γ v hj h
      obtain ⟨g, h8, hg, _⟩ := h 7 (by decide)
      obtain ⟨q, ⟨hr, _⟩, g', hg', _, hx⟩ := h 8 (by decide)
      have h10 : V 9 = .int .i64 (0) := h 9 (by decide)
      have h11 : V 10 = .bool false := h 10 (by decide)
      simp only [List.map_cons, List.map_nil, putD, Act.put, List.setIfInBounds_toArray, List.set_cons_succ, List.set_cons_zero, Nat.reduceAdd, Nat.zero_add, h8, h10, h11]
      go_wp2_with fail
      go_meet
      rw [hg] at hg'
      cases hg'
      exact ⟨g, q, rfl, rfl, rfl, Lib.hid hx, Lib.hid hr, Lib.hid hj.below⟩
  case rest =>
  obtain ⟨g4, q4, rfl, rfl, rfl, HG4, HP4, HB4⟩ := hcut
  obtain ⟨W4, hW4⟩ : ∃ W, W = wc := ⟨_, rfl⟩
  subst hW4
  have HX4 := Lib.hid (below_two HX3.out HB4.out)
  have HG2 := Lib.hid (HG2.out.below HB4.out)
  have HP2 := Lib.hid (HP2.out.below HB4.out)
  have HG1 := Lib.hid (((HG1.out.below HB2.out).below HB3.out).below HB4.out)
  have HP1 := Lib.hid (((HP1.out.below HB2.out).below HB3.out).below HB4.out)
  have d0 : W4.cell? ⟨g2, 0, none⟩ = some (.slice q2.m s2.mem.length q2.mc) := HG2.out.cell 0
  have d3 : W4.cell? ⟨g2, 3, none⟩ = some (.slice q2.c 0 q2.cc) := by
    have h : W4.cell? ⟨g2, 3, none⟩ = some (.slice q2.c s2.ctl.length q2.cc) := HG2.out.cell 3
    rw [Q2.out.2.1] at h
    exact h
  obtain ⟨ad, hA, hc⟩ := RdI.at_ (xs := s1.ctl) (j := 1) HP1.out.ctl (by rw [Q1.out.2.1]; decide)
  have c3 : W4.cell? ⟨g1, 3, none⟩ = some (.slice (some ad) 2 q1.cc) := by
    have h : W4.cell? ⟨g1, 3, none⟩ = some (.slice q1.c s1.ctl.length q1.cc) := HG1.out.cell 3
    rw [Q1.out.2.1, hA] at h
    exact h
  have e1 : W4.cell? ⟨ad.block, ad.off + 1, none⟩ = some (.int .i64 8) := by
    have h := hc
    rw [Q1.out.2.1] at h
    exact h
  clear hA hc
  go_wp2_with fail
  refine (Cell_is q2.m q2.mc 8 s2.mem W4 _ 16 0 rfl Q2.out.2.2.2.2.2 (by rw [Q2.out.2.2.1]; decide) HP2.out.mem HP2.out.memB).mono ?_
  rintro r w9 ⟨rfl, rfl⟩
  go_wp2
  go_ret
  exact ⟨rfl, HX4.out⟩
end Go.Proofs.YtfkkmlgblhnkaaaDoor
