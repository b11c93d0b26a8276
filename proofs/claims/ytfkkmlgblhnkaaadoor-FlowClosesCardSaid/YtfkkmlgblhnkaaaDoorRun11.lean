
/- nostoslaw11.run: words of control flow, one behind the other, by their names. -/
import Derived.Test.YtfkkmlgblhnkaaaDoorLaws11c
import Derived.Test.YtfkkmlgblhnkaaaDoorPlainC11
import Derived.Test.YtfkkmlgblhnkaaaDoorMD
namespace Go.Proofs.YtfkkmlgblhnkaaaDoor
open Go.RowKit

theorem ix_str (ad : Addr) (n c j : Nat) (w : World) (h : j < n) : (Instr.indexAt 36 (.slice (some ad) n c) (.int .i64 j)).run Tryd.prog w = .ok (.pointer (some (ad.add j))) w := by
  have e2 : Tryd.prog.elem 36 = 9 := by kernel_rfl
  have ht : Tryd.prog.underlying 36 = some (.slice (Tryd.prog.elem 36)) := by rw [e2]; exact Tryd.underlying36
  rw [run_indexAt_slice w _ _ _ _ _ _ ht, if_pos (by omega), e2, Tryd.sizeOf9 w]
  simp [Result.andThen]
theorem ld_str (p : Addr) (s : ByteArray) (w : World) (h : w.cell? p = some (.string s)) : (Instr.loadAt 9 (.pointer (some p))).run Tryd.prog w = .ok (.string s) w := by
  go_simp
/-- A state whose lists lie in S. -/
def fStS (S : Nat → Prop) (s : Ps) : Fact := fun γ v w => ∃ q, v = stV q s ∧ StR γ w q s ∧ Lies q s S
def fTupS (S : Nat → Prop) (s : Ps) (r : List Value) : Fact := fun γ v w => ∃ q, v = .tuple (stV q s :: r).toArray ∧ StR γ w q s ∧ Lies q s S
def fSetS (S : Nat → Prop) (i : Nat) (t : TypeId) (s : Ps) : Fact := fun γ _ w => ∃ q, StR γ w q s ∧ Lies q s S ∧ SetR γ w i t (stL q s)
theorem stable_stS (W : World) (S : Nat → Prop) (s : Ps) : Stable W (fStS S s) := by
  rintro γ v w γ' w' hj ⟨q, hv, h, hl⟩ he
  exact ⟨q, hv, he.st h, hl⟩
theorem stable_tupS (W : World) (S : Nat → Prop) (s : Ps) (r : List Value) : Stable W (fTupS S s r) := by
  rintro γ v w γ' w' hj ⟨q, hv, h, hl⟩ he
  exact ⟨q, hv, he.st h, hl⟩
theorem stable_setS (W : World) (S : Nat → Prop) (i : Nat) (t : TypeId) (s : Ps) : Stable W (fSetS S i t s) := by
  rintro γ v w γ' w' hj ⟨q, h, hl, hs⟩ he
  exact ⟨q, he.st h, hl, he.filled hj hs⟩
/-- Names, and their numbers. -/
def namesOf (l : List ByteArray) (o : List Int) : Prop := l.length = o.length ∧ ∀ j, j < l.length → findR (foldB (l.getD j ByteArray.empty)) = o.getD j 0 ∧ (l.getD j ByteArray.empty).size ≤ 100
theorem runF_at {s : Ps} {o : List Int} {j : Nat} (h : j < o.length) : runF s (o.drop j) = if (doF s (o.getD j 0)).2.1 ≠ 0 ∨ (doF s (o.getD j 0)).2.2 = false then (s, (doF s (o.getD j 0)).2.1) else runF (doF s (o.getD j 0)).1 (o.drop (j + 1)) := by
  rw [List.drop_eq_getElem_cons h, runF, List.getD_eq_getElem?_getD, List.getElem?_eq_getElem h]
  rfl

set_option maxRecDepth 100000 in
set_option maxHeartbeats 8000000 in
theorem Run_any (V : Value) (q : Ad) (s : Ps) (A : Option Addr) (c n : Nat) (l : List ByteArray) (o : List Int) (s' : Ps) (e' : Int) (w : World) (hV : V = stV q s) (hn : l.length = n) (hno : namesOf l o) (hr : runF s o = (s', e')) (hp : RdP w q s) (hx : Rd w A n c 1 (strs l)) (hl : n ≤ 100) (hm : s.mem.length ≤ 1000000) (hsp : s.spots.length ≤ 1000) (hct : s.ctl.length ≤ 1000) (hwl : s.words.length ≤ 1000000) (ht : Tab w) :
    Calls Tryd.prog 13 #[V, .slice A n c] w fun e w' => ∃ q', e = .returned (.tuple #[stV q' s', .int .i64 e']) ∧ RdP w' q' s' ∧ Below w.heap.size w w' := by
  subst hV
  have HX := Lib.hid hx
  have HT := Lib.hid ht
  have HNO := Lib.hid hno
  have HN := Lib.hid hn
  have HR0 : Hid (runF s (o.drop 0) = (s', e')) := Lib.hid hr
  have hB0 := below_two (below_lit w (.cells (stL q s).toArray 28)) (below_lit _ (.cells (stL nilA zeroP).toArray 28))
  have hS : Bx ((w.alloc (.cells (stL q s).toArray 28)).alloc (.cells (stL nilA zeroP).toArray 28)) w.heap.size 28 (stL q s) := (Bx.new w _ _ _ _ rfl rfl).alloc _
  have hR : Bx ((w.alloc (.cells (stL q s).toArray 28)).alloc (.cells (stL nilA zeroP).toArray 28)) (w.heap.size + 1) 28 (stL nilA zeroP) := Bx.new _ _ _ _ _ (by simp) rfl
  obtain ⟨W, hW⟩ : ∃ W, (w.alloc (.cells #[.slice q.m s.mem.length q.mc, .slice q.d s.data.length q.dc, .slice q.r s.ret.length q.rc, .slice q.c s.ctl.length q.cc, .slice q.w s.words.length q.wc, .slice q.s s.spots.length q.sc, .slice q.o s.out.length q.oc, .int .i64 s.ip, .int .i64 s.here, .int .i64 s.pos, .int .i64 s.tok, .int .i64 s.inp, .int .i64 s.err, .bool s.comp, .bool s.halt] 28)).alloc (.cells #[.slice none 0 0, .slice none 0 0, .slice none 0 0, .slice none 0 0, .slice none 0 0, .slice none 0 0, .slice none 0 0, .int .i64 0, .int .i64 0, .int .i64 0, .int .i64 0, .int .i64 0, .int .i64 0, .bool false, .bool false] 28) = W := ⟨_, rfl⟩
  have HB0 : Hid (Below w.heap.size w W) := Lib.hid (by rw [← hW]; exact hB0)
  have HG : Hid (Bx W w.heap.size 28 (stL q s)) := Lib.hid (by rw [← hW]; exact hS)
  have HRS : Hid (Bx W (w.heap.size + 1) 28 (stL nilA zeroP)) := Lib.hid (by rw [← hW]; exact hR)
  have HP : Hid (RdP W q s) := Lib.hid (hp.below HB0.out)
  have HL : Hid (Lies q s (fun b => b ≠ w.heap.size ∧ b ≠ w.heap.size + 1)) := Lib.hid (hp.lies.mono (fun b hb => by omega))
  have HWW := Lib.hid hW
  have HLE0 : Hid (LeD s s (6 * 0)) := Lib.hid (LeD.refl s 0)
  have hle := hx.le
  have hcp := hx.cap
  unfold maxLen at hcp
  clear hp hx ht hno hn hr hB0 hS hR hW
  rw [stV_eq q s]
  go_enter Tryd.func13, Tryd.ntmps13
  go_wp2_with fail
  rw [HWW.out]
  go_loopw [6] (fun y wr => ∃ (j : Nat) (qa : Ad) (t : Ps), y = .int .i64 j ∧ j ≤ n ∧ Hid (runF t (o.drop j) = (s', e')) ∧ Hid (LeD t s (6 * j)) ∧ Hid (Bx wr w.heap.size 28 (stL qa t)) ∧ Hid (Bx wr (w.heap.size + 1) 28 (stL nilA zeroP)) ∧ Hid (RdP wr qa t) ∧ Hid (Lies qa t (fun b => b ≠ w.heap.size ∧ b ≠ w.heap.size + 1)) ∧ Hid (Below w.heap.size w wr)) (fun y _ => n - (intOf y).toNat)
  case atStart => exact ⟨0, q, s, rfl, by omega, HR0, HLE0, HG, HRS, HP, HL, HB0⟩
  case round =>
    obtain ⟨j, qa, t, rfl, hj, HRN, HLE, HGa, HRSa, HRa, HLa, HBr⟩ := hrel
    by_cases hlt : j < n
    · obtain ⟨nm, hnm⟩ : ∃ m, l.getD j ByteArray.empty = m := ⟨_, rfl⟩
      obtain ⟨op, hop⟩ : ∃ m, o.getD j 0 = m := ⟨_, rfl⟩
      have hno := HNO.out.2 j (by rw [HN.out]; exact hlt)
      rw [hnm, hop] at hno
      obtain ⟨s1, e1, b1, hd⟩ : ∃ a b c, doF t op = (a, b, c) := ⟨_, _, _, rfl⟩
      have hrn := HRN.out
      rw [runF_at (by rw [← HNO.out.1, HN.out]; exact hlt), hop, hd] at hrn
      simp only at hrn
      have hcell : ∃ ad, A = some ad ∧ wr.cell? (ad.add j) = some (.string nm) := by
        obtain ⟨ad, e, hc⟩ := (HX.out.below HBr.out).cell j (.string nm) (by rw [strs_get (by rw [HN.out]; exact hlt), hnm])
        exact ⟨ad, e, hc⟩
      obtain ⟨ad, rfl, hcx⟩ := hcell
      have HD := Lib.hid hd
      have HRN1 := Lib.hid hrn
      have HNM := Lib.hid hno
      have HCX := Lib.hid hcx
      have HLD : Hid (LeD s1 t 6) := Lib.hid (by have h := LeD.do_ t op; rw [hd] at h; exact h)
      have HSZ : Hid (Sz t 100000) := Lib.hid ⟨by have := HLE.out.mem; omega, by have := HLE.out.spots; omega, by have := HLE.out.ctl; omega⟩
      have HWL : Hid (t.words.length ≤ 1000000) := Lib.hid (by have := HLE.out.words; omega)
      clear hd hrn hno hcx hnm hop HRN
      go_upto_region 4 with fail
      refine wp_region_facts (W := wr) [fVal (stV qa t), fVal (.slice (some ad) n c), fVal (.int .i64 j), fVal (.pointer (some (ad.add j))), fVal (.string nm), fVal (.int .i64 op), fTupS (fun b => b ≠ w.heap.size ∧ b ≠ w.heap.size + 1) s1 [.int .i64 e1, .bool b1], fTupS (fun b => b ≠ w.heap.size ∧ b ≠ w.heap.size + 1) s1 [.int .i64 e1, .bool b1], fStS (fun b => b ≠ w.heap.size ∧ b ≠ w.heap.size + 1) s1, fVal (.int .i64 e1), fVal (.bool b1),
          fBox 22 28 (stL nilA zeroP), fSetS (fun b => b ≠ w.heap.size ∧ b ≠ w.heap.size + 1) 22 28 s1, fVal (.int .i64 e1), fVal (.bool b1)]
        (fun | 3 => [1, 2] | 4 => [3] | 5 => [4] | 6 => [0, 5] | 7 => [6] | 8 => [7] | 9 => [7] | 10 => [7] | 12 => [11, 8] | 13 => [9] | 14 => [10] | _ => [])
        (fun | 12 => 23 | i => 2 * i) _ rfl
        rfl (by kernel_rfl) (by kernel_rfl) ?_ ?_ ?_
      · exact .cons (stable_val _ _) (.cons (stable_val _ _) (.cons (stable_val _ _) (.cons (stable_val _ _) (.cons (stable_val _ _) (.cons (stable_val _ _) (.cons (stable_tupS _ _ _ _) (.cons (stable_tupS _ _ _ _) (.cons (stable_stS _ _ _) (.cons (stable_val _ _) (.cons (stable_val _ _) (.cons (stable_box _ _ _ _) (.cons (stable_setS _ _ _ _ _) (.cons (stable_val _ _) (.cons (stable_val _ _) .nil))))))))))))))
      · refine ⟨?_, ?_, ?_, ?_, ?_, ?_, ?_, ?_, ?_, ?_, ?_, ?_, ?_, ?_, ?_, trivial⟩
        · intro a γ v hj' hu hd hf
          exact rg_load 28 _ rfl w.heap.size (hf 2 (by decide)) 28 (stL qa t) _ (HGa.out.below hj'.below) Tryd.underlying28 rfl 15 infoSt rfl ⟨_, rfl, .quiet rfl⟩
        · intro a γ v hj' hu hd hf
          exact rg_move _ rfl _ (hf 1 (by decide)) ⟨_, rfl, .quiet rfl⟩
        · intro a γ v hj' hu hd hf
          exact rg_move _ rfl _ (hf 6 (by decide)) ⟨_, rfl, .quiet rfl⟩
        · intro a γ v hj' hu hd hf
          obtain ⟨x1, e1', rfl⟩ := hd 1 (by simp)
          obtain ⟨x2, e2', rfl⟩ := hd 2 (by simp)
          refine rg_run _ ?_ ⟨_, rfl, .quiet rfl⟩
          unfold execOp
          simp only [e1' 18 rfl, e2' 19 rfl, Sem.run_bind, ix_str ad n c j v hlt, Sem.run_pure, Result.andThen_ok]
        · intro a γ v hj' hu hd hf
          obtain ⟨x1, e1', rfl⟩ := hd 3 (by simp)
          refine rg_run _ ?_ ⟨_, rfl, .quiet rfl⟩
          unfold execOp
          simp only [e1' 20 rfl, Sem.run_bind, ld_str (ad.add j) nm v ((hj'.below.cell (World.block_lt_of_cell? _ _ HCX.out)).trans HCX.out), Sem.run_pure, Result.andThen_ok]
        · intro a γ v hj' hu hd hf
          obtain ⟨x1, e1', rfl⟩ := hd 4 (by simp)
          refine rg_call 16 _ _ rfl #[.string nm] (by simp [e1' 21 rfl]) (by go_simp) _ (Find_any nm op v HNM.out.1 (by have := HNM.out.2; omega) (HT.out.below (below_two HBr.out hj'.below))) ?_
          rintro e w' ⟨rfl, hb⟩
          exact ⟨_, rfl, _, rfl, .grow hb rfl⟩
        · intro a γ v hj' hu hd hf
          obtain ⟨x1, e1', rfl⟩ := hd 0 (by simp)
          obtain ⟨x2, e2', rfl⟩ := hd 5 (by simp)
          refine rg_call 10 _ _ rfl #[stV qa t, .int .i64 op] (by simp [e1' 17 rfl, e2' 22 rfl]) (by go_simp) _ (DoF_any op qa t s1 e1 b1 v HD.out (HRa.out.below hj'.below) HSZ.out HWL.out (HT.out.below (below_two HBr.out hj'.below))) ?_
          rintro e w' ⟨q', rfl, hres, hb⟩
          exact ⟨_, rfl, _, rfl, .grow hb ⟨q', rfl, .of_res hj' (hj'.lies_old HRa.out) hres, (hres.lies _ HLa.out).mono (fun b hb => hb.elim id (fun h => by have := HGa.out.lt; have := HRSa.out.lt; have := hj'.below.size; omega))⟩⟩
        · intro a γ v hj' hu hd hf
          obtain ⟨x, e, q, rfl, hs, hl⟩ := hd 6 (by simp)
          exact rg_move _ rfl _ (e 23 rfl) ⟨_, rfl, .quiet ⟨q, rfl, hs, hl⟩⟩
        · intro a γ v hj' hu hd hf
          obtain ⟨x, e, q, rfl, hs, hl⟩ := hd 7 (by simp)
          exact rg_extract _ _ rfl _ (e 16 rfl) _ rfl ⟨_, rfl, .quiet ⟨q, rfl, hs, hl⟩⟩
        · intro a γ v hj' hu hd hf
          obtain ⟨x, e, q, rfl, hs, hl⟩ := hd 7 (by simp)
          exact rg_extract _ _ rfl _ (e 16 rfl) _ rfl ⟨_, rfl, .quiet rfl⟩
        · intro a γ v hj' hu hd hf
          obtain ⟨x, e, q, rfl, hs, hl⟩ := hd 7 (by simp)
          exact rg_extract _ _ rfl _ (e 16 rfl) _ rfl ⟨_, rfl, .quiet rfl⟩
        · intro a γ v hj' hu hd hf
          refine rg_alloc 28 rfl (stL nilA zeroP) (.agg (stL nilA zeroP).toArray) (by kernel_rfl) rfl ?_
          intro w' g hx hb h1 h2
          exact ⟨_, rfl, .box (by kernel_rfl) (by decide) hu hb h1 h2 hx⟩
        · intro a γ v hj' hu hd hf
          obtain ⟨x1, e1', g, rfl, hg, hx⟩ := hd 11 (by simp)
          obtain ⟨x2, e2', q, rfl, hs, hl⟩ := hd 8 (by simp)
          refine rg_store 28 _ _ rfl g (stL q s1) (e1' 7 rfl) (e2' 24 rfl) 28 _ (hx hu) 15 infoSt rfl rfl (stL_one q s1) ?_
          intro w' hx' hg'
          exact ⟨_, rfl, .set (k := 22) (by kernel_rfl) (by decide) rfl hg hu hg' ⟨q, GE.st (.set 22 g hg hu hg') hs, hl, g, by rw [gset_other _ _ (by decide)]; exact hg, gset_same _ _ _, hx'⟩⟩
        · intro a γ v hj' hu hd hf
          obtain ⟨x, e, rfl⟩ := hd 9 (by simp)
          exact rg_assign _ rfl _ (e 25 rfl) ⟨_, rfl, .quiet rfl⟩
        · intro a γ v hj' hu hd hf
          obtain ⟨x, e, rfl⟩ := hd 10 (by simp)
          exact rg_assign _ rfl _ (e 26 rfl) ⟨_, rfl, .quiet rfl⟩
      · intro V γ v hj' h
        obtain ⟨g, h7, hg, _⟩ := h 11 (by decide)
        obtain ⟨q1, ⟨hr1, _⟩, hls, g', hg', _, hx⟩ := h 12 (by decide)
        have h13 : V 13 = .int .i64 e1 := h 13 (by decide)
        have h14 : V 14 = .bool b1 := h 14 (by decide)
        rw [hg] at hg'
        cases hg'
        have hgl := hj'.lt 22 g (by rw [hg]; rfl)
        have HGL := Lib.hid hgl
        have HX1 := Lib.hid hx
        have HR1 := Lib.hid hr1
        have HBv := Lib.hid (below_two HBr.out hj'.below)
        have HBJ := Lib.hid hj'.below
        have HGa2 := Lib.hid (HGa.out.below hj'.below)
        have HRSa2 := Lib.hid (HRSa.out.below hj'.below)
        simp only [List.map_cons, List.map_nil, putD, Act.put, List.setIfInBounds_toArray, List.set_cons_succ, List.set_cons_zero, Nat.reduceAdd, Nat.zero_add, h7, h13, h14]
        have HLS := Lib.hid hls
        clear h hj' h7 h13 h14 hg hgl hx hr1 hls
        by_cases he : e1 = 0
        · subst he
          cases b1 with
          | false =>
            have hrn := HRN1.out
            rw [if_pos (.inr rfl)] at hrn
            injection hrn with hr1 hr2
            subst hr1 hr2
            go_wp2_with (first
              | (refine wp_loadS rfl 28 _ rfl w.heap.size rfl 28 _ _ HGa2.out Tryd.underlying28 rfl 15 infoSt rfl ?_)
              | (refine wp_storeS rfl 28 _ _ rfl (w.heap.size + 1) (stL qa t) rfl rfl 28 _ HRSa2.out 15 infoSt rfl rfl rfl ?_))
            intro w6 hg6 hw6
            have HG6 := Lib.hid hg6
            have HR6 := Lib.hid ((HRa.out.below HBJ.out).grown HLa.out hw6 (fun h => h.2 rfl))
            have HB6 := Lib.hid (below_grown HBv.out HBv.out.size hw6 (by omega))
            clear hg6 hw6
            go_wp2
            refine bodyPost_ret (v := .tuple #[stV qa t, .int .i64 0]) (results_S Tryd.results13 _ _ (w.heap.size + 1) 28 _ _ rfl HG6.out Tryd.underlying28 rfl 15 infoSt rfl _ rfl) rfl ?_
            exact ⟨_, rfl, HR6.out, HB6.out⟩
          | true =>
            have hrn := HRN1.out
            rw [if_neg (by simp)] at hrn
            have HRN2 := Lib.hid hrn
            clear hrn
            go_wp2_with (first
              | (refine wp_loadS rfl 28 _ rfl g rfl 28 (stL q1 s1) _ HX1.out Tryd.underlying28 rfl 15 infoSt rfl ?_)
              | (refine wp_storeS rfl 28 _ _ rfl w.heap.size (stL q1 s1) rfl rfl 28 _ HGa2.out 15 infoSt rfl rfl rfl ?_))
            intro w6 hg6 hw6
            have HG6 := Lib.hid hg6
            have HR6 := Lib.hid (HR1.out.grown HLS.out hw6 (fun h => h.1 rfl))
            have HRS6 := Lib.hid (HRSa2.out.grown hw6 (by omega))
            have HB6 := Lib.hid (below_grown HBv.out HBv.out.size hw6 (Nat.le_refl _))
            have HLE6 : Hid (LeD s1 s (6 * (j + 1))) := Lib.hid ((HLE.out.trans HLD.out).mono (by omega))
            clear hg6 hw6
            go_wp2
            go_roundw
            case rel => exact ⟨j + 1, q1, s1, by go_num, by omega, HRN2, HLE6, HG6, HRS6, HR6, HLS, HB6⟩
            case measure => simp [intOf] <;> omega
        · have hrn := HRN1.out
          rw [if_pos (.inl he)] at hrn
          injection hrn with hr1 hr2
          subst hr1 hr2
          go_wp2_with (first
            | (refine wp_loadS rfl 28 _ rfl w.heap.size rfl 28 _ _ HGa2.out Tryd.underlying28 rfl 15 infoSt rfl ?_)
            | (refine wp_storeS rfl 28 _ _ rfl (w.heap.size + 1) (stL qa t) rfl rfl 28 _ HRSa2.out 15 infoSt rfl rfl rfl ?_))
          intro w6 hg6 hw6
          have HG6 := Lib.hid hg6
          have HR6 := Lib.hid ((HRa.out.below HBJ.out).grown HLa.out hw6 (fun h => h.2 rfl))
          have HB6 := Lib.hid (below_grown HBv.out HBv.out.size hw6 (by omega))
          clear hg6 hw6
          go_wp2
          refine bodyPost_ret (v := .tuple #[stV qa t, .int .i64 e1]) (results_S Tryd.results13 _ _ (w.heap.size + 1) 28 _ _ rfl HG6.out Tryd.underlying28 rfl 15 infoSt rfl _ rfl) rfl ?_
          exact ⟨_, rfl, HR6.out, HB6.out⟩
    · have hjn : j = n := by omega
      subst hjn
      have hrn := HRN.out
      rw [List.drop_eq_nil_of_le (by rw [← HNO.out.1, HN.out]; exact Nat.le_refl _)] at hrn
      injection hrn with hr1 hr2
      subst hr1 hr2
      go_wp2_with (first
        | (refine wp_loadS rfl 28 _ rfl w.heap.size rfl 28 _ _ HGa.out Tryd.underlying28 rfl 15 infoSt rfl ?_)
        | (refine wp_storeS rfl 28 _ _ rfl (w.heap.size + 1) (stL qa t) rfl rfl 28 _ HRSa.out 15 infoSt rfl rfl rfl ?_))
      intro w6 hg6 hw6
      have HG6 := Lib.hid hg6
      have HR6 := Lib.hid (HRa.out.grown HLa.out hw6 (fun h => h.2 rfl))
      have HB6 := Lib.hid (below_grown HBr.out HBr.out.size hw6 (by omega))
      clear hg6 hw6
      go_wp2
      refine bodyPost_ret (v := .tuple #[stV qa t, .int .i64 0]) (results_S Tryd.results13 _ _ (w.heap.size + 1) 28 _ _ rfl HG6.out Tryd.underlying28 rfl 15 infoSt rfl _ rfl) rfl ?_
      exact ⟨_, rfl, HR6.out, HB6.out⟩
end Go.Proofs.YtfkkmlgblhnkaaaDoor
