/- number.Take, in part (D). -/
import Derived.Test.YtmpmhbfaebgdgaaTake
namespace Go.Proofs.Ytmpmhbfaebgdgaa
open Go.RowKit

set_option maxHeartbeats 4000000 in
set_option maxRecDepth 100000 in
theorem Take_D (s : ByteArray) (b : Int) (w : World) (x : Int) (ok : Bool) (hch : isChar s = false) (k1 : begins s 35 = false) (k2 : begins s 36 = false) (k3 : begins s 37 = false) (hx : tailR (cutS (s) 45) b (begins (s) 45) = (x, ok)) (hs : s.size ≤ 1000000) :
    Calls Try.prog 11 #[.string s, .int .i64 b] w fun e w' => e = .returned (.tuple #[.int .i64 x, .bool ok]) ∧ Below w.heap.size w w' := by
  have hmf : ∀ (fn : Fn) (first cap : Array Value) (w : World), (Instr.makeFunc fn first cap).run Try.prog w = .ok (.func fn first cap) w := fun _ _ _ _ => rfl
  have hsz : (cutS (s) 45).size ≤ 1000000 := Nat.le_trans (cutS_size _ _) (hs)
  obtain ⟨r1, h1⟩ : ∃ r1, s = r1 := ⟨_, rfl⟩
  rw [h1] at hx hsz
  obtain ⟨r2, h2⟩ : ∃ r2, cutS r1 45 = r2 := ⟨_, rfl⟩
  obtain ⟨mb, h3⟩ : ∃ mb, begins r1 45 = mb := ⟨_, rfl⟩
  rw [h2, h3] at hx
  rw [h2] at hsz
  have HX := Lib.hid hx
  have H1 := Lib.hid h1
  have HR2 := Lib.hid h2
  have HM := Lib.hid h3
  have K1 := Lib.hid k1
  have K2 := Lib.hid k2
  have K3 := Lib.hid k3
  clear hx h1 h2 h3 k1 k2 k3
  go_enter Try.func11, Try.ntmps11
  rcases notChar hch with h3 | ⟨h3, ha⟩ | ⟨h3, ha, hb⟩
  case' inl =>
    have h3' : ((s.size : Int) == 3) = false := by simp; omega
  case' inr.inl =>
    have g0 := get_bt s 0 (by omega)
    have hn : (bt s 0 == 39) = false := by simpa using ha
    generalize bt s 0 = c0 at *
  case' inr.inr =>
    have g0 := get_bt s 0 (by omega)
    have g2 := get_bt s 2 (by omega)
    have hn : (bt s 2 == 39) = false := by simpa using hb
    rw [ha] at g0
    generalize bt s 2 = c2 at *
    clear ha
  all_goals
    go_wp2_with fail
    have HBL := Lib.hid (below_lit w (.cells #[.string s] 9))
    have HCELL : Hid ((w.alloc (.cells #[.string s] 9)).cell? ⟨w.heap.size, 0, none⟩ = some (.string s)) := Lib.hid (by simp)
    have HFZ : Hid ((w.alloc (.cells #[.string s] 9)).frozen? ⟨w.heap.size, 0, none⟩ = false) := Lib.hid (by simp)
    refine (cut_is s 35 35 w.heap.size false s _ rfl K1.out (cutS_no K1.out) HCELL.out HFZ.out).mono ?_
    rintro e w1 ⟨rfl, hc, hf, hb⟩
    have HBL := Lib.hid (HBL.out.trans hb)
    have HCELL := Lib.hid hc
    have HFZ := Lib.hid hf
    clear hb hc hf
    go_wp2_with fail
    refine (cut_is s 36 36 w.heap.size false s _ rfl K2.out (cutS_no K2.out) HCELL.out HFZ.out).mono ?_
    rintro e w2 ⟨rfl, hc, hf, hb⟩
    have HBL := Lib.hid (HBL.out.trans hb)
    have HCELL := Lib.hid hc
    have HFZ := Lib.hid hf
    clear hb hc hf
    go_wp2_with fail
    refine (cut_is s 37 37 w.heap.size false s _ rfl K3.out (cutS_no K3.out) HCELL.out HFZ.out).mono ?_
    rintro e w3 ⟨rfl, hc, hf, hb⟩
    have HBL := Lib.hid (HBL.out.trans hb)
    have HCELL := Lib.hid hc
    have HFZ := Lib.hid hf
    clear hb hc hf
    go_wp2_with fail
    obtain rfl := H1.out
    refine (cut_is _ 45 45 w.heap.size mb r2 _ rfl HM.out HR2.out HCELL.out HFZ.out).mono ?_
    rintro e w4 ⟨rfl, hc, hf, hb⟩
    have HBL := Lib.hid (HBL.out.trans hb)
    clear hb hf HCELL HFZ
    have he := toList_empty5 r2
    cases hpk : putOk b with
    | false =>
      have HPK := Lib.hid hpk
      have hx := HX.out
      have hst : (x, ok) = (0, false) := by
        rw [← hx, tailR, hpk]
        rfl
      have HST := Lib.hid hst
      have hcx := hc
      clear hst hx he hpk
      go_wp2
      go_quiet ((refine (may_any b false _ HPK.out).mono ?_; rintro e w1 ⟨rfl, rfl⟩; exact ⟨rfl, _, rfl⟩))
      go_wp2_with fail
      have hc5 : (w4.drewN nq).cell? ⟨w.heap.size, 0, none⟩ = some (.string r2) := hcx
      have hcw : ∀ pos, ((w4.drewN nq).iter r2 pos).cell? ⟨w.heap.size, 0, none⟩ = some (.string r2) := fun pos => (((Below.refl _ (w4.drewN nq)).alloc (Nat.le_refl _) _).cell (World.block_lt_of_cell? _ _ hc5)).trans hc5
      have HCW := Lib.hid hcw
      have HB5 := Lib.hid (HBL.out.trans (below_drewN w4 nq |>.mono HBL.out.size))
      clear hcw hc5
      generalize hw5 : w4.drewN nq = w5 at HCW HB5 ⊢
      have hsz5 : w5.heap.size = w4.heap.size := by rw [← hw5]; rfl
      have HSZ5 := Lib.hid hsz5
      clear hw5 hsz5
      go_loopw [8, 9] (fun a okv wr => ∃ (pos : Nat) (n : Int) (f : Bool), wr = w5.iter r2 pos ∧ pos ≤ r2.size ∧ a = .int .i64 n ∧ okv = .bool f ∧ Hid ((f = true ∧ finR (scan r2 b pos n) mb = (x, ok)) ∨ (f = false ∧ (x, ok) = (0, false)))) (fun _ _ wr => r2.size - wr.iterPos w5.heap.size)
      case atStart => exact ⟨0, 0, false, rfl, by omega, rfl, rfl, Lib.hid (.inr ⟨rfl, HST.out⟩)⟩
      case round =>
        obtain ⟨pos, n, f, rfl, hpos, rfl, rfl, HF⟩ := hrel
        by_cases hlt : pos < r2.size
        · have hcp := HCW.out pos
          have hcp2 := HCW.out (pos + 1)
          have hcp3 := HCW.out (pos + (Utf8.decode r2 pos).2)
          have hg := get_bt r2 pos hlt
          have hr := bt_range r2 pos
          have hwl := width_le r2 pos hlt
          have hwd := width_pos r2 pos hlt
          have HFG : Hid (∀ w, Calls Try.prog 17 #[.int .u8 (bt r2 pos)] w fun e w' => e = .returned (.int .i64 (figN (bt r2 pos))) ∧ w = w') := Lib.hid (fun w => figure_any _ w hr.1 hr.2)
          have HYES := Lib.hid (fun hf => scan_yes (b := b) (n := n) hlt hf)
          have HNO := Lib.hid (fun hf => scan_no (b := b) (n := n) hlt hf)
          have hfl := figN_lt (bt r2 pos)
          have HASC := Lib.hid (fun hf => isFig_ascii (b := b) (c := bt r2 pos) hf)
          have hisf : isFig b (bt r2 pos) = (decide (0 ≤ figN (bt r2 pos)) && decide (figN (bt r2 pos) < b)) := rfl
          cases hif : isFig b (bt r2 pos) with
          | true =>
            have ha := HASC.out hif
            have hnx := fun ty => run_next_ascii (P := Try.prog) w5 r2 pos ty hlt (by rw [← hg] at ha; omega)
            simp only [HSZ5.out] at hnx
            rw [show ((r2[pos]'hlt).toNat : Int) = bt r2 pos from hg] at hnx
            have HY := Lib.hid (HYES.out hif)
            rw [hif] at hisf
            have hi2 := hisf.symm
            simp only [Bool.and_eq_true, decide_eq_true_eq] at hi2
            obtain ⟨hi3, hi4⟩ := hi2
            generalize figN (bt r2 pos) = d at *
            generalize bt r2 pos = c at *
            clear hisf hif HYES HNO HASC hcp3 hwl hwd
            go_wp2_with (go_at_call 17; refine (HFG.out _).mono ?_; rintro e w' ⟨rfl, rfl⟩)
            go_roundw
            case rel => exact ⟨pos + 1, stepN n b d, f, rfl, by omega, rfl, rfl, Lib.hid (by
              rcases HF.out with ⟨h1, h2⟩ | h1
              · exact .inl ⟨h1, by rw [← HY.out]; exact h2⟩
              · exact .inr h1)⟩
            case measure => simp; omega
          | false =>
            have hnx := fun ty => run_next_any (P := Try.prog) w5 r2 pos ty hlt
            simp only [HSZ5.out] at hnx
            have HN := Lib.hid (HNO.out hif)
            rw [hif] at hisf
            have hi2 := hisf.symm
            have hi3 : ¬ 0 ≤ figN (bt r2 pos) ∨ ¬ figN (bt r2 pos) < b := by
              rw [Bool.and_eq_false_iff] at hi2
              simpa using hi2
            generalize figN (bt r2 pos) = d at *
            generalize bt r2 pos = c at *
            clear hisf hif HYES HNO HASC hcp2 hi2
            by_cases hi4 : 0 ≤ d
            · have hi5 : ¬ d < b := by rcases hi3 with h | h; exact absurd hi4 h; exact h
              clear hi3
              go_wp2_with (go_at_call 17; refine (HFG.out _).mono ?_; rintro e w' ⟨rfl, rfl⟩)
              go_roundw
              case rel => exact ⟨pos + (Utf8.decode r2 pos).2, n, false, rfl, hwl, rfl, rfl, Lib.hid (by
                rcases HF.out with ⟨h1, h2⟩ | h1
                · rw [HN.out] at h2
                  exact .inr ⟨rfl, h2.symm⟩
                · exact .inr ⟨rfl, h1.2⟩)⟩
              case measure => simp; omega
            · clear hi3
              go_wp2_with (go_at_call 17; refine (HFG.out _).mono ?_; rintro e w' ⟨rfl, rfl⟩)
              go_roundw
              case rel => exact ⟨pos + (Utf8.decode r2 pos).2, n, false, rfl, hwl, rfl, rfl, Lib.hid (by
                rcases HF.out with ⟨h1, h2⟩ | h1
                · rw [HN.out] at h2
                  exact .inr ⟨rfl, h2.symm⟩
                · exact .inr ⟨rfl, h1.2⟩)⟩
              case measure => simp; omega
        · have hcp := HCW.out pos
          have hnx := fun ty => run_next_end (P := Try.prog) w5 r2 pos ty hlt
          simp only [HSZ5.out] at hnx
          have HBE := Lib.hid (HB5.out.alloc HB5.out.size (.stringIter r2 pos))
          rcases HF.out with ⟨h1, h2⟩ | ⟨h1, h2⟩
          · subst h1
            rw [scan_end hlt] at h2
            cases mb with
            | true =>
              have h3 : (neg64 n, true) = (x, ok) := h2
              injection h3 with h4 h5
              subst h4 h5
              go_wp2
              go_ret2
              exact ⟨rfl, HBE.out⟩
            | false =>
              have h3 : (n, true) = (x, ok) := h2
              injection h3 with h4 h5
              subst h4 h5
              go_wp2
              go_ret2
              exact ⟨rfl, HBE.out⟩
          · subst h1
            injection h2 with h4 h5
            subst h4 h5
            go_wp2
            go_ret2
            exact ⟨rfl, HBE.out⟩
    | true =>
      have HPK := Lib.hid hpk
      have hx := HX.out
      have hcx := hc
      by_cases hz : r2.size = 0
      · have hst : (x, ok) = (0, false) := by
          rw [← hx, tailR, decide_eq_false (show ¬ 0 < r2.size by omega), Bool.and_false]
          rfl
        have HST := Lib.hid hst
        have he2 : r2.toList.isEmpty = true := by rw [he]; exact decide_eq_true hz
        clear hst hx he hpk hz
        go_wp2
        go_quiet ((refine (may_any b true _ HPK.out).mono ?_; rintro e w1 ⟨rfl, rfl⟩; exact ⟨rfl, _, rfl⟩))
        go_wp2_with fail
        have hc5 : (w4.drewN nq).cell? ⟨w.heap.size, 0, none⟩ = some (.string r2) := hcx
        have hcw : ∀ pos, ((w4.drewN nq).iter r2 pos).cell? ⟨w.heap.size, 0, none⟩ = some (.string r2) := fun pos => (((Below.refl _ (w4.drewN nq)).alloc (Nat.le_refl _) _).cell (World.block_lt_of_cell? _ _ hc5)).trans hc5
        have HCW := Lib.hid hcw
        have HB5 := Lib.hid (HBL.out.trans (below_drewN w4 nq |>.mono HBL.out.size))
        clear hcw hc5
        generalize hw5 : w4.drewN nq = w5 at HCW HB5 ⊢
        have hsz5 : w5.heap.size = w4.heap.size := by rw [← hw5]; rfl
        have HSZ5 := Lib.hid hsz5
        clear hw5 hsz5
        go_loopw [8, 9] (fun a okv wr => ∃ (pos : Nat) (n : Int) (f : Bool), wr = w5.iter r2 pos ∧ pos ≤ r2.size ∧ a = .int .i64 n ∧ okv = .bool f ∧ Hid ((f = true ∧ finR (scan r2 b pos n) mb = (x, ok)) ∨ (f = false ∧ (x, ok) = (0, false)))) (fun _ _ wr => r2.size - wr.iterPos w5.heap.size)
        case atStart => exact ⟨0, 0, false, rfl, by omega, rfl, rfl, Lib.hid (.inr ⟨rfl, HST.out⟩)⟩
        case round =>
          obtain ⟨pos, n, f, rfl, hpos, rfl, rfl, HF⟩ := hrel
          by_cases hlt : pos < r2.size
          · have hcp := HCW.out pos
            have hcp2 := HCW.out (pos + 1)
            have hcp3 := HCW.out (pos + (Utf8.decode r2 pos).2)
            have hg := get_bt r2 pos hlt
            have hr := bt_range r2 pos
            have hwl := width_le r2 pos hlt
            have hwd := width_pos r2 pos hlt
            have HFG : Hid (∀ w, Calls Try.prog 17 #[.int .u8 (bt r2 pos)] w fun e w' => e = .returned (.int .i64 (figN (bt r2 pos))) ∧ w = w') := Lib.hid (fun w => figure_any _ w hr.1 hr.2)
            have HYES := Lib.hid (fun hf => scan_yes (b := b) (n := n) hlt hf)
            have HNO := Lib.hid (fun hf => scan_no (b := b) (n := n) hlt hf)
            have hfl := figN_lt (bt r2 pos)
            have HASC := Lib.hid (fun hf => isFig_ascii (b := b) (c := bt r2 pos) hf)
            have hisf : isFig b (bt r2 pos) = (decide (0 ≤ figN (bt r2 pos)) && decide (figN (bt r2 pos) < b)) := rfl
            cases hif : isFig b (bt r2 pos) with
            | true =>
              have ha := HASC.out hif
              have hnx := fun ty => run_next_ascii (P := Try.prog) w5 r2 pos ty hlt (by rw [← hg] at ha; omega)
              simp only [HSZ5.out] at hnx
              rw [show ((r2[pos]'hlt).toNat : Int) = bt r2 pos from hg] at hnx
              have HY := Lib.hid (HYES.out hif)
              rw [hif] at hisf
              have hi2 := hisf.symm
              simp only [Bool.and_eq_true, decide_eq_true_eq] at hi2
              obtain ⟨hi3, hi4⟩ := hi2
              generalize figN (bt r2 pos) = d at *
              generalize bt r2 pos = c at *
              clear hisf hif HYES HNO HASC hcp3 hwl hwd
              go_wp2_with (go_at_call 17; refine (HFG.out _).mono ?_; rintro e w' ⟨rfl, rfl⟩)
              go_roundw
              case rel => exact ⟨pos + 1, stepN n b d, f, rfl, by omega, rfl, rfl, Lib.hid (by
                rcases HF.out with ⟨h1, h2⟩ | h1
                · exact .inl ⟨h1, by rw [← HY.out]; exact h2⟩
                · exact .inr h1)⟩
              case measure => simp; omega
            | false =>
              have hnx := fun ty => run_next_any (P := Try.prog) w5 r2 pos ty hlt
              simp only [HSZ5.out] at hnx
              have HN := Lib.hid (HNO.out hif)
              rw [hif] at hisf
              have hi2 := hisf.symm
              have hi3 : ¬ 0 ≤ figN (bt r2 pos) ∨ ¬ figN (bt r2 pos) < b := by
                rw [Bool.and_eq_false_iff] at hi2
                simpa using hi2
              generalize figN (bt r2 pos) = d at *
              generalize bt r2 pos = c at *
              clear hisf hif HYES HNO HASC hcp2 hi2
              by_cases hi4 : 0 ≤ d
              · have hi5 : ¬ d < b := by rcases hi3 with h | h; exact absurd hi4 h; exact h
                clear hi3
                go_wp2_with (go_at_call 17; refine (HFG.out _).mono ?_; rintro e w' ⟨rfl, rfl⟩)
                go_roundw
                case rel => exact ⟨pos + (Utf8.decode r2 pos).2, n, false, rfl, hwl, rfl, rfl, Lib.hid (by
                  rcases HF.out with ⟨h1, h2⟩ | h1
                  · rw [HN.out] at h2
                    exact .inr ⟨rfl, h2.symm⟩
                  · exact .inr ⟨rfl, h1.2⟩)⟩
                case measure => simp; omega
              · clear hi3
                go_wp2_with (go_at_call 17; refine (HFG.out _).mono ?_; rintro e w' ⟨rfl, rfl⟩)
                go_roundw
                case rel => exact ⟨pos + (Utf8.decode r2 pos).2, n, false, rfl, hwl, rfl, rfl, Lib.hid (by
                  rcases HF.out with ⟨h1, h2⟩ | h1
                  · rw [HN.out] at h2
                    exact .inr ⟨rfl, h2.symm⟩
                  · exact .inr ⟨rfl, h1.2⟩)⟩
                case measure => simp; omega
          · have hcp := HCW.out pos
            have hnx := fun ty => run_next_end (P := Try.prog) w5 r2 pos ty hlt
            simp only [HSZ5.out] at hnx
            have HBE := Lib.hid (HB5.out.alloc HB5.out.size (.stringIter r2 pos))
            rcases HF.out with ⟨h1, h2⟩ | ⟨h1, h2⟩
            · subst h1
              rw [scan_end hlt] at h2
              cases mb with
              | true =>
                have h3 : (neg64 n, true) = (x, ok) := h2
                injection h3 with h4 h5
                subst h4 h5
                go_wp2
                go_ret2
                exact ⟨rfl, HBE.out⟩
              | false =>
                have h3 : (n, true) = (x, ok) := h2
                injection h3 with h4 h5
                subst h4 h5
                go_wp2
                go_ret2
                exact ⟨rfl, HBE.out⟩
            · subst h1
              injection h2 with h4 h5
              subst h4 h5
              go_wp2
              go_ret2
              exact ⟨rfl, HBE.out⟩
      · have hst : finR (scan r2 b 0 0) mb = (x, ok) := by
          rw [← hx, tailR, hpk, decide_eq_true (show 0 < r2.size by omega)]
          rfl
        have HST := Lib.hid hst
        have he2 : r2.toList.isEmpty = false := by rw [he]; exact decide_eq_false hz
        clear hst hx he hpk
        go_wp2
        go_quiet ((refine (may_any b true _ HPK.out).mono ?_; rintro e w1 ⟨rfl, rfl⟩; exact ⟨rfl, _, rfl⟩))
        go_wp2_with fail
        have hc5 : (w4.drewN nq).cell? ⟨w.heap.size, 0, none⟩ = some (.string r2) := hcx
        have hcw : ∀ pos, ((w4.drewN nq).iter r2 pos).cell? ⟨w.heap.size, 0, none⟩ = some (.string r2) := fun pos => (((Below.refl _ (w4.drewN nq)).alloc (Nat.le_refl _) _).cell (World.block_lt_of_cell? _ _ hc5)).trans hc5
        have HCW := Lib.hid hcw
        have HB5 := Lib.hid (HBL.out.trans (below_drewN w4 nq |>.mono HBL.out.size))
        clear hcw hc5
        generalize hw5 : w4.drewN nq = w5 at HCW HB5 ⊢
        have hsz5 : w5.heap.size = w4.heap.size := by rw [← hw5]; rfl
        have HSZ5 := Lib.hid hsz5
        clear hw5 hsz5
        go_loopw [8, 9] (fun a okv wr => ∃ (pos : Nat) (n : Int) (f : Bool), wr = w5.iter r2 pos ∧ pos ≤ r2.size ∧ a = .int .i64 n ∧ okv = .bool f ∧ Hid ((f = true ∧ finR (scan r2 b pos n) mb = (x, ok)) ∨ (f = false ∧ (x, ok) = (0, false)))) (fun _ _ wr => r2.size - wr.iterPos w5.heap.size)
        case atStart => exact ⟨0, 0, true, rfl, by omega, rfl, rfl, Lib.hid (.inl ⟨rfl, HST.out⟩)⟩
        case round =>
          obtain ⟨pos, n, f, rfl, hpos, rfl, rfl, HF⟩ := hrel
          by_cases hlt : pos < r2.size
          · have hcp := HCW.out pos
            have hcp2 := HCW.out (pos + 1)
            have hcp3 := HCW.out (pos + (Utf8.decode r2 pos).2)
            have hg := get_bt r2 pos hlt
            have hr := bt_range r2 pos
            have hwl := width_le r2 pos hlt
            have hwd := width_pos r2 pos hlt
            have HFG : Hid (∀ w, Calls Try.prog 17 #[.int .u8 (bt r2 pos)] w fun e w' => e = .returned (.int .i64 (figN (bt r2 pos))) ∧ w = w') := Lib.hid (fun w => figure_any _ w hr.1 hr.2)
            have HYES := Lib.hid (fun hf => scan_yes (b := b) (n := n) hlt hf)
            have HNO := Lib.hid (fun hf => scan_no (b := b) (n := n) hlt hf)
            have hfl := figN_lt (bt r2 pos)
            have HASC := Lib.hid (fun hf => isFig_ascii (b := b) (c := bt r2 pos) hf)
            have hisf : isFig b (bt r2 pos) = (decide (0 ≤ figN (bt r2 pos)) && decide (figN (bt r2 pos) < b)) := rfl
            cases hif : isFig b (bt r2 pos) with
            | true =>
              have ha := HASC.out hif
              have hnx := fun ty => run_next_ascii (P := Try.prog) w5 r2 pos ty hlt (by rw [← hg] at ha; omega)
              simp only [HSZ5.out] at hnx
              rw [show ((r2[pos]'hlt).toNat : Int) = bt r2 pos from hg] at hnx
              have HY := Lib.hid (HYES.out hif)
              rw [hif] at hisf
              have hi2 := hisf.symm
              simp only [Bool.and_eq_true, decide_eq_true_eq] at hi2
              obtain ⟨hi3, hi4⟩ := hi2
              generalize figN (bt r2 pos) = d at *
              generalize bt r2 pos = c at *
              clear hisf hif HYES HNO HASC hcp3 hwl hwd
              go_wp2_with (go_at_call 17; refine (HFG.out _).mono ?_; rintro e w' ⟨rfl, rfl⟩)
              go_roundw
              case rel => exact ⟨pos + 1, stepN n b d, f, rfl, by omega, rfl, rfl, Lib.hid (by
                rcases HF.out with ⟨h1, h2⟩ | h1
                · exact .inl ⟨h1, by rw [← HY.out]; exact h2⟩
                · exact .inr h1)⟩
              case measure => simp; omega
            | false =>
              have hnx := fun ty => run_next_any (P := Try.prog) w5 r2 pos ty hlt
              simp only [HSZ5.out] at hnx
              have HN := Lib.hid (HNO.out hif)
              rw [hif] at hisf
              have hi2 := hisf.symm
              have hi3 : ¬ 0 ≤ figN (bt r2 pos) ∨ ¬ figN (bt r2 pos) < b := by
                rw [Bool.and_eq_false_iff] at hi2
                simpa using hi2
              generalize figN (bt r2 pos) = d at *
              generalize bt r2 pos = c at *
              clear hisf hif HYES HNO HASC hcp2 hi2
              by_cases hi4 : 0 ≤ d
              · have hi5 : ¬ d < b := by rcases hi3 with h | h; exact absurd hi4 h; exact h
                clear hi3
                go_wp2_with (go_at_call 17; refine (HFG.out _).mono ?_; rintro e w' ⟨rfl, rfl⟩)
                go_roundw
                case rel => exact ⟨pos + (Utf8.decode r2 pos).2, n, false, rfl, hwl, rfl, rfl, Lib.hid (by
                  rcases HF.out with ⟨h1, h2⟩ | h1
                  · rw [HN.out] at h2
                    exact .inr ⟨rfl, h2.symm⟩
                  · exact .inr ⟨rfl, h1.2⟩)⟩
                case measure => simp; omega
              · clear hi3
                go_wp2_with (go_at_call 17; refine (HFG.out _).mono ?_; rintro e w' ⟨rfl, rfl⟩)
                go_roundw
                case rel => exact ⟨pos + (Utf8.decode r2 pos).2, n, false, rfl, hwl, rfl, rfl, Lib.hid (by
                  rcases HF.out with ⟨h1, h2⟩ | h1
                  · rw [HN.out] at h2
                    exact .inr ⟨rfl, h2.symm⟩
                  · exact .inr ⟨rfl, h1.2⟩)⟩
                case measure => simp; omega
          · have hcp := HCW.out pos
            have hnx := fun ty => run_next_end (P := Try.prog) w5 r2 pos ty hlt
            simp only [HSZ5.out] at hnx
            have HBE := Lib.hid (HB5.out.alloc HB5.out.size (.stringIter r2 pos))
            rcases HF.out with ⟨h1, h2⟩ | ⟨h1, h2⟩
            · subst h1
              rw [scan_end hlt] at h2
              cases mb with
              | true =>
                have h3 : (neg64 n, true) = (x, ok) := h2
                injection h3 with h4 h5
                subst h4 h5
                go_wp2
                go_ret2
                exact ⟨rfl, HBE.out⟩
              | false =>
                have h3 : (n, true) = (x, ok) := h2
                injection h3 with h4 h5
                subst h4 h5
                go_wp2
                go_ret2
                exact ⟨rfl, HBE.out⟩
            · subst h1
              injection h2 with h4 h5
              subst h4 h5
              go_wp2
              go_ret2
              exact ⟨rfl, HBE.out⟩
end Go.Proofs.Ytmpmhbfaebgdgaa
