
/- The walk of FlowMisses. -/
import Derived.Test.YtfkkmlgblhnkaaaDoorLaws11
import Derived.Test.YtfkkmlgblhnkaaaDoorPlainC11
namespace Go.Proofs.YtfkkmlgblhnkaaaDoor
open Go.RowKit

theorem DoF_is (V : Value) (op : Int) (q : Ad) (s : Ps) (s' : Ps) (e' : Int) (b : Bool) (w : World) (hV : V = stV q s) (hr : doF s op = (s', e', b)) (hp : RdP w q s) (hz : Sz s 100000) (hwl : s.words.length ≤ 1000000) (ht : Tab w) :
    Calls Tryd.prog 10 #[V, .int .i64 op] w fun r w' => ∃ q', r = .returned (.tuple #[stV q' s', .int .i64 e', .bool b]) ∧ Res w.heap.size q s w' q' s' ∧ Below w.heap.size w w' := by
  subst hV
  exact DoF_any op q s s' e' b w hr hp hz hwl ht

/-- The words that open. -/
def freeB (op : Int) : Bool := decide (op = 98 ∨ op = 101 ∨ op = 106)
theorem ref_free {s : Ps} (hm : s.mem.length = 200) (hh : s.here = 0) (code : Option (Int × Int)) (opn : Int → Int → List Int) (code' : Option (List Int)) (hc : code' = code.map fun p => [p.1, p.2]) :
    ∃ s', refF s [] code' none 2 opn = (s', if 126 < s.ctl.length then -3 else 0, true) := by
  subst hc
  by_cases h : 126 < s.ctl.length
  · rw [refF_over (hasR_nil _) ⟨by decide, by simp; omega⟩, if_pos h]
    exact ⟨_, rfl⟩
  · rw [if_neg h]
    cases code with
    | none => exact ⟨_, refF_ok (t := s) (t2 := s) (hasR_nil _) (fun h2 => h (by have := h2.2; simp at this; omega)) rfl rfl⟩
    | some p =>
      have c1 : commaE s = 0 := commaE_at (k := 0) (by rw [hh]; rfl) (by omega)
      have c2 : commaE (layS s p.1) = 0 := commaE_at (k := 1) (by rw [layS_here c1, hh]; rfl) (by rw [layS_mem c1]; omega)
      have e2 : emitE s [p.1, p.2] = 0 := by
        show (if commaE s = 0 then (if commaE (layS s p.1) = 0 then 0 else commaE (layS s p.1)) else commaE s) = _
        rw [if_pos c1, if_pos c2]
      exact ⟨_, refF_ok (hasR_nil _) (fun h2 => h (by have := h2.2; simp at this; omega)) (by show (emitS s [p.1, p.2], emitE s [p.1, p.2]) = _; rw [e2]) rfl⟩
/-- What a word that wants a pair says. -/
theorem ref_kind {s : Ps} {k : Int} {K : List Int} (h1 : 1 ≤ k ∧ k ≤ 3) (code : Option (List Int)) (st : Option Int) (c : Nat) (opn : Int → Int → List Int) :
    ∃ s' e, refF s (k :: K) code st c opn = (s', e, true) ∧ (s.ctl.length < 2 → e = -22) ∧ ((1 ≤ s.ctl.getD (s.ctl.length - 2) 0 ∧ s.ctl.getD (s.ctl.length - 2) 0 ≤ 3) ∨ e = -22) := by
  cases h : hasR s.ctl (k :: K) with
  | false => exact ⟨_, _, refF_miss h, fun _ => rfl, .inr rfl⟩
  | true =>
    have h2 := of_decide_eq_true h
    have hk := h2.2 0 (by simp)
    simp only [Nat.mul_zero, Nat.sub_zero, List.getD_cons_zero] at hk
    have hl := h2.1
    rw [List.length_cons] at hl
    have ht : (refF s (k :: K) code st c opn).2.2 = true := by
      unfold refF
      split
      · rfl
      split
      · rfl
      split
      · rfl
      split <;> rfl
    refine ⟨(refF s (k :: K) code st c opn).1, (refF s (k :: K) code st c opn).2.1, ?_, fun h => by omega, .inl (by rw [hk]; exact h1)⟩
    rw [← ht]
theorem miss_law {s : Ps} {op : Int} (hm : s.mem.length = 200) (hh : s.here = 0) (h0 : 98 ≤ op) (h1 : op ≤ 108) :
    ∃ s' e, doF s op = (s', e, true) ∧ (freeB op = true → e = if 126 < s.ctl.length then -3 else 0) ∧
      (freeB op = false → (s.ctl.length < 2 → e = -22) ∧ ((1 ≤ s.ctl.getD (s.ctl.length - 2) 0 ∧ s.ctl.getD (s.ctl.length - 2) 0 ≤ 3) ∨ e = -22)) := by
  have fr : ∀ (s' : Ps), doF s op = (s', if 126 < s.ctl.length then -3 else 0, true) → freeB op = true → ∃ s' e, doF s op = (s', e, true) ∧ (freeB op = true → e = if 126 < s.ctl.length then -3 else 0) ∧
      (freeB op = false → (s.ctl.length < 2 → e = -22) ∧ ((1 ≤ s.ctl.getD (s.ctl.length - 2) 0 ∧ s.ctl.getD (s.ctl.length - 2) 0 ≤ 3) ∨ e = -22)) :=
    fun s' h hb => ⟨s', _, h, fun _ => rfl, fun h => by rw [hb] at h; cases h⟩
  have kd : ∀ (K : List Int) (k : Int) (code : Option (List Int)) (st : Option Int) (c : Nat) (opn : Int → Int → List Int), doF s op = refF s (k :: K) code st c opn → 1 ≤ k ∧ k ≤ 3 → freeB op = false → ∃ s' e, doF s op = (s', e, true) ∧ (freeB op = true → e = if 126 < s.ctl.length then -3 else 0) ∧
      (freeB op = false → (s.ctl.length < 2 → e = -22) ∧ ((1 ≤ s.ctl.getD (s.ctl.length - 2) 0 ∧ s.ctl.getD (s.ctl.length - 2) 0 ≤ 3) ∨ e = -22)) := by
    intro K k code st c opn h hk hb
    obtain ⟨s', e, h1, h2, h3⟩ := ref_kind (s := s) (K := K) hk code st c opn
    exact ⟨s', e, h.trans h1, fun h => by rw [hb] at h; (cases h), fun _ => ⟨h2, h3⟩⟩
  by_cases h98 : op = 98
  · subst h98
    obtain ⟨s', h⟩ := ref_free hm hh (some (4, 0)) (fun c _ => [1, c]) _ rfl
    exact fr s' ((show doF s 98 = _ from forward_ref s 4 1).trans h) rfl
  by_cases h99 : op = 99
  · subst h99
    exact kd [] 1 _ _ _ _ (show doF s 99 = _ from else_ref s) (by decide) rfl
  by_cases h100 : op = 100
  · subst h100
    exact kd [] 1 _ _ _ _ (show doF s 100 = _ from then_ref s) (by decide) rfl
  by_cases h101 : op = 101
  · subst h101
    obtain ⟨s', h⟩ := ref_free hm hh none (fun _ h => [2, h]) _ rfl
    exact fr s' ((show doF s 101 = _ from begin_ref s).trans h) rfl
  by_cases h102 : op = 102
  · subst h102
    exact kd [] 2 _ _ _ _ (show doF s 102 = _ from back_ref s 3) (by decide) rfl
  by_cases h103 : op = 103
  · subst h103
    exact kd [] 2 _ _ _ _ (show doF s 103 = _ from back_ref s 4) (by decide) rfl
  by_cases h104 : op = 104
  · subst h104
    exact kd [] 2 _ _ _ _ (show doF s 104 = _ from while_ref s) (by decide) rfl
  by_cases h105 : op = 105
  · subst h105
    exact kd [1] 2 _ _ _ _ (show doF s 105 = _ from repeat_ref s) (by decide) rfl
  by_cases h106 : op = 106
  · subst h106
    obtain ⟨s', h⟩ := ref_free hm hh (some (5, 0)) (fun c _ => [3, c]) _ rfl
    exact fr s' ((show doF s 106 = _ from forward_ref s 5 3).trans h) rfl
  by_cases h107 : op = 107
  · subst h107
    exact kd [] 3 _ _ _ _ (show doF s 107 = _ from shut_ref s 6) (by decide) rfl
  obtain rfl : op = 108 := by omega
  exact kd [] 3 _ _ _ _ (show doF s 108 = _ from shut_ref s 7) (by decide) rfl
/-- Which of the three names it is. -/
def NameIs (m : ByteArray) (f : Bool) : Prop :=
  (m.toList = [73, 70] ∧ f = true) ∨ (m.toList ≠ [73, 70] ∧ m.toList = [66, 69, 71, 73, 78] ∧ f = true) ∨ (m.toList ≠ [73, 70] ∧ m.toList ≠ [66, 69, 71, 73, 78] ∧ m.toList = [68, 79] ∧ f = true) ∨
  (m.toList ≠ [73, 70] ∧ m.toList ≠ [66, 69, 71, 73, 78] ∧ m.toList ≠ [68, 79] ∧ f = false)
instance (m : ByteArray) (f : Bool) : Decidable (NameIs m f) := by unfold NameIs; infer_instance
theorem name_free {op : Int} (h0 : 98 ≤ op) (h1 : op ≤ 108) : NameIs (nameR op) (freeB op) := by
  obtain ⟨k, hk, rfl⟩ : ∃ k : Nat, k < 11 ∧ op = 98 + k := ⟨(op - 98).toNat, by omega, by omega⟩
  have key : ∀ k : Nat, k < 11 → NameIs (nameR (98 + (k : Int))) (freeB (98 + (k : Int))) := by decide +kernel
  exact key k hk

set_option maxRecDepth 100000 in
set_option maxHeartbeats 8000000 in
theorem FlowMisses_walk (A : Option Addr) (c : Nat) (l : List Int) (x : Int) (w : World) (hx : RdI w .i64 A c l) (h0 : 0 ≤ x ∧ x < 256) (ht : Tab w) :
    Calls Tryd.prog 7 #[.slice A l.length c, .int .u8 x] w fun e w' => e = .returned (.bool true) ∧ Below w.heap.size w w' := by
  have HX := Lib.hid hx
  have HT := Lib.hid ht
  clear hx ht
  go_enter Tryd.func7, Tryd.ntmps7
  go_wp2_with fail
  refine (awake_any w HT.out).mono ?_
  rintro e w1 ⟨rfl, hb⟩
  have HB := Lib.hid hb
  clear hb
  by_cases h200 : 200 < l.length
  · go_wp2
    go_ret
    exact ⟨rfl, HB.out⟩
  · obtain ⟨M, hmk, hM, hMB, hMR⟩ : ∃ M : List Int, (∀ W : World, (Instr.makeSlice 22 (.int .i64 200) (.int .i64 200)).run Tryd.prog W = .ok (.slice (some ⟨W.heap.size, 0, none⟩) 200 200) (W.alloc (.cells (nums .u8 M).toArray 5 (0, 0)))) ∧ M.length = 200 ∧ isB M ∧ ∀ w : World, RdI (w.alloc (.cells (nums .u8 M).toArray 5 (0, 0))) .u8 (some ⟨w.heap.size, 0, none⟩) 200 M :=
      ⟨List.replicate 200 0, make_nums (P := Tryd.prog) 22 5 .u8 1 Tryd.underlying22 infoU8 200 (by omega) (by omega), List.length_replicate, isB_zero 200, fun w => rd_make w 200 (by omega)⟩
    obtain ⟨r, hr, hr0, hr1⟩ : ∃ r : Int, x.tmod 11 = r ∧ 0 ≤ r ∧ r ≤ 10 := ⟨_, rfl, by rw [Int.tmod_eq_emod_of_nonneg h0.1]; omega, by rw [Int.tmod_eq_emod_of_nonneg h0.1]; omega⟩
    obtain ⟨n, hn⟩ : ∃ n, l.length = n := ⟨_, rfl⟩
    obtain ⟨s', e', hd, hfr, hkd⟩ := miss_law (s := ⟨M, [], [], l, [], [], [], 0, 0, 0, 0, 0, 0, false, false⟩) (op := 98 + r) hM rfl (by omega) (by omega)
    have hnf := name_free (op := 98 + r) (by omega) (by omega)
    obtain ⟨nmv, hnm⟩ : ∃ v, nameR (98 + r) = v := ⟨_, rfl⟩
    rw [hnm] at hnf
    rw [hn] at h200 ⊢
    have hfr : freeB (98 + r) = true → e' = if 126 < n then -3 else 0 := by rw [← hn]; exact hfr
    have hkd : freeB (98 + r) = false → (n < 2 → e' = -22) ∧ ((1 ≤ l.getD (n - 2) 0 ∧ l.getD (n - 2) 0 ≤ 3) ∨ e' = -22) := by rw [← hn]; exact hkd
    have HD := Lib.hid hd
    have HFR := Lib.hid hfr
    have HKD := Lib.hid hkd
    have HNF := Lib.hid hnf
    have HNM := Lib.hid hnm
    have HN := Lib.hid hn
    have HM := Lib.hid hM
    have HMB := Lib.hid hMB
    have HMR := Lib.hid hMR
    clear hd hfr hkd hnf hnm hn hM hMB hMR
    go_wp2_with fail
    have hb1 := below_lit w1 (.cells (nums .u8 M).toArray 5 (0, 0))
    have hb2 := below_lit (w1.alloc (.cells (nums .u8 M).toArray 5 (0, 0))) (.cells #[.slice (some ⟨w1.heap.size, 0, none⟩) 200 200, .slice none 0 0, .slice none 0 0, .slice A n c, .slice none 0 0, .slice none 0 0, .slice none 0 0, .int .i64 0, .int .i64 0, .int .i64 0, .int .i64 0, .int .i64 0, .int .i64 0, .bool false, .bool false] 28)
    have HB2 := Lib.hid (below_two HB.out (below_two hb1 hb2))
    have HMW := Lib.hid ((HMR.out w1).below hb2)
    refine (DoF_is _ (98 + r) ⟨some ⟨w1.heap.size, 0, none⟩, 200, none, 0, none, 0, A, c, none, 0, none, 0, none, 0⟩ ⟨M, [], [], l, [], [], [], 0, 0, 0, 0, 0, 0, false, false⟩ s' e' true _ (by rw [stV_eq, show (Ps.mem ⟨M, [], [], l, [], [], [], 0, 0, 0, 0, 0, 0, false, false⟩).length = 200 from HM.out, show (Ps.ctl ⟨M, [], [], l, [], [], [], 0, 0, 0, 0, 0, 0, false, false⟩).length = n from HN.out]; rfl) HD.out
      ⟨HMW.out, HMB.out, rd_nil _ 1, rd_nil _ 2, HX.out.below HB2.out, rd_nil _ 4, rd_nil _ 2, rd_nil _ 1, by simp [isB]⟩ ⟨by show M.length ≤ 1000000; rw [HM.out]; decide, Nat.zero_le _, by show l.length ≤ 100000; rw [HN.out]; omega⟩ (Nat.zero_le _) (HT.out.below HB2.out)).mono ?_
    rintro e w3 ⟨q3, rfl, hr3, hb⟩
    have HB3 := Lib.hid (below_two HB2.out hb)
    rw [stV_eq q3 s']
    clear hr3 hb hb1 hb2 HMW HMR HMB HD hmk
    have hlit := below_lit w3 (.cells #[.slice q3.m s'.mem.length q3.mc, .slice q3.d s'.data.length q3.dc, .slice q3.r s'.ret.length q3.rc, .slice q3.c s'.ctl.length q3.cc, .slice q3.w s'.words.length q3.wc, .slice q3.s s'.spots.length q3.sc, .slice q3.o s'.out.length q3.oc, .int .i64 s'.ip, .int .i64 s'.here, .int .i64 s'.pos, .int .i64 s'.tok, .int .i64 s'.inp, .int .i64 s'.err, .bool s'.comp, .bool s'.halt] 28)
    have HB4 := Lib.hid (below_two HB3.out hlit)
    clear hlit
    go_wp2_with fail
    refine (Name_any (98 + r) nmv _ HNM.out (HT.out.below HB4.out)).mono ?_
    rintro e w5 ⟨rfl, hb⟩
    have HB5 := Lib.hid (below_two HB4.out hb)
    clear hb
    have hx := HX.out.below HB5.out
    obtain ⟨fb, hfb⟩ : ∃ b, freeB (98 + r) = b := ⟨_, rfl⟩
    have HFB := Lib.hid hfb
    have hnf := HNF.out
    rw [hfb] at hnf
    have HNF := Lib.hid hnf
    clear hfb hnf
    by_cases h2 : n < 2
    · have e1 : (fb = true ∧ e' = 0) ∨ (fb = false ∧ e' = -22) := by
        cases hq : fb with
        | true =>
          have h := HFR.out (HFB.out.trans hq)
          rw [if_neg (by omega)] at h
          exact .inl ⟨rfl, h⟩
        | false => exact .inr ⟨rfl, (HKD.out (HFB.out.trans hq)).1 h2⟩
      have HE1 := Lib.hid e1
      clear hx e1
      rcases HE1.out with ⟨rfl, rfl⟩ | ⟨rfl, rfl⟩
      · rcases HNF.out with ⟨p1, _⟩ | ⟨p1, p2, _⟩ | ⟨p1, p2, p3, _⟩ | ⟨_, _, _, hq⟩
        · have o1 : (nmv.toList == [73, 70]) = true := by simpa using p1
          go_wp2
          go_ret
          exact ⟨rfl, HB5.out⟩
        · have o1 : (nmv.toList == [73, 70]) = false := by simpa using p1
          have o2 : (nmv.toList == [66, 69, 71, 73, 78]) = true := by simpa using p2
          go_wp2
          go_ret
          exact ⟨rfl, HB5.out⟩
        · have o1 : (nmv.toList == [73, 70]) = false := by simpa using p1
          have o2 : (nmv.toList == [66, 69, 71, 73, 78]) = false := by simpa using p2
          have o3 : (nmv.toList == [68, 79]) = true := by simpa using p3
          go_wp2
          go_ret
          exact ⟨rfl, HB5.out⟩
        · cases hq
      · rcases HNF.out with ⟨_, hq⟩ | ⟨_, _, hq⟩ | ⟨_, _, _, hq⟩ | ⟨p1, p2, p3, _⟩
        · cases hq
        · cases hq
        · cases hq
        · have o1 : (nmv.toList == [73, 70]) = false := by simpa using p1
          have o2 : (nmv.toList == [66, 69, 71, 73, 78]) = false := by simpa using p2
          have o3 : (nmv.toList == [68, 79]) = false := by simpa using p3
          go_wp2
          go_ret
          exact ⟨rfl, HB5.out⟩
    · cases hq : fb with
      | true =>
        have h := HFR.out (HFB.out.trans hq)
        rw [hq] at HNF
        have h126 : (126 < n ∧ e' = -3) ∨ (¬ 126 < n ∧ e' = 0) := by
          by_cases h126 : 126 < n
          · rw [if_pos h126] at h
            exact .inl ⟨h126, h⟩
          · rw [if_neg h126] at h
            exact .inr ⟨h126, h⟩
        clear h hx
        rcases HNF.out with ⟨p1, _⟩ | ⟨p1, p2, _⟩ | ⟨p1, p2, p3, _⟩ | ⟨_, _, _, hq⟩
        · have o1 : (nmv.toList == [73, 70]) = true := by simpa using p1
          rcases h126 with ⟨h126, rfl⟩ | ⟨h126, rfl⟩
          · have d1 : decide ((n : Int) ≤ 126) = false := decide_eq_false (by omega)
            have d2 : decide (126 < (n : Int)) = true := decide_eq_true (by omega)
            go_wp2
            go_ret
            exact ⟨rfl, HB5.out⟩
          · have d1 : decide ((n : Int) ≤ 126) = true := decide_eq_true (by omega)
            have d2 : decide (126 < (n : Int)) = false := decide_eq_false (by omega)
            go_wp2
            go_ret
            exact ⟨rfl, HB5.out⟩
        · have o1 : (nmv.toList == [73, 70]) = false := by simpa using p1
          have o2 : (nmv.toList == [66, 69, 71, 73, 78]) = true := by simpa using p2
          rcases h126 with ⟨h126, rfl⟩ | ⟨h126, rfl⟩
          · have d1 : decide ((n : Int) ≤ 126) = false := decide_eq_false (by omega)
            have d2 : decide (126 < (n : Int)) = true := decide_eq_true (by omega)
            go_wp2
            go_ret
            exact ⟨rfl, HB5.out⟩
          · have d1 : decide ((n : Int) ≤ 126) = true := decide_eq_true (by omega)
            have d2 : decide (126 < (n : Int)) = false := decide_eq_false (by omega)
            go_wp2
            go_ret
            exact ⟨rfl, HB5.out⟩
        · have o1 : (nmv.toList == [73, 70]) = false := by simpa using p1
          have o2 : (nmv.toList == [66, 69, 71, 73, 78]) = false := by simpa using p2
          have o3 : (nmv.toList == [68, 79]) = true := by simpa using p3
          rcases h126 with ⟨h126, rfl⟩ | ⟨h126, rfl⟩
          · have d1 : decide ((n : Int) ≤ 126) = false := decide_eq_false (by omega)
            have d2 : decide (126 < (n : Int)) = true := decide_eq_true (by omega)
            go_wp2
            go_ret
            exact ⟨rfl, HB5.out⟩
          · have d1 : decide ((n : Int) ≤ 126) = true := decide_eq_true (by omega)
            have d2 : decide (126 < (n : Int)) = false := decide_eq_false (by omega)
            go_wp2
            go_ret
            exact ⟨rfl, HB5.out⟩
        · cases hq
      | false =>
        have hkd := (HKD.out (HFB.out.trans hq)).2
        rw [hq] at HNF
        obtain ⟨ad, rfl, hcx⟩ := RdI.at_ hx (j := n - 2) (by rw [HN.out]; omega)
        obtain ⟨kd, hkk⟩ : ∃ kd, l.getD (n - 2) 0 = kd := ⟨_, rfl⟩
        rw [hkk] at hcx hkd
        obtain ⟨m, rfl⟩ : ∃ m, n = m + 2 := ⟨n - 2, by omega⟩
        rw [Nat.add_sub_cancel] at hcx
        have hle := hx.le
        have hcp := hx.cap
        unfold maxLen at hcp
        rw [HN.out] at hle
        clear hkk hx
        rcases HNF.out with ⟨_, hq⟩ | ⟨_, _, hq⟩ | ⟨_, _, _, hq⟩ | ⟨p1, p2, p3, _⟩
        · cases hq
        · cases hq
        · cases hq
        · have o1 : (nmv.toList == [73, 70]) = false := by simpa using p1
          have o2 : (nmv.toList == [66, 69, 71, 73, 78]) = false := by simpa using p2
          have o3 : (nmv.toList == [68, 79]) = false := by simpa using p3
          rcases hkd with ⟨k1, k2⟩ | rfl
          all_goals
            go_wp2
            all_goals
              go_ret
              exact ⟨rfl, HB5.out⟩
end Go.Proofs.YtfkkmlgblhnkaaaDoor
