
/- nostosref16: ends, Read, ReadText, End. -/
import Derived.Test.YticebanhccgglaaDoorRText16
import Derived.Laws.ResultCell
namespace Go.Proofs.YticebanhccgglaaDoor
open Go.RowKit

theorem getD_mem {l : List Int} {k : Nat} (h : k < l.length) : l.getD k 0 ∈ l := by
  rw [List.getD_eq_getElem?_getD, List.getElem?_eq_getElem h, Option.getD_some]
  exact List.getElem_mem h
theorem ends_alt {l : List Int} {k m : Nat} {er : Int} (hm : endsL l = (m, er)) (hk : (k = 10 ∧ 10 ≤ lead l) ∨ (k < 10 ∧ lead l = k)) (h0 : 0 < l.length) (_ : k ≤ l.length) :
    (l.getD 0 0 = 128 ∧ m = 0 ∧ er = 2) ∨ (l.getD 0 0 ≠ 128 ∧ k = 10 ∧ m = 0 ∧ er = 2) ∨ (l.getD 0 0 ≠ 128 ∧ k ≠ 10 ∧ k = l.length ∧ m = 0 ∧ er = 3) ∨ (l.getD 0 0 ≠ 128 ∧ k ≠ 10 ∧ k ≠ l.length ∧ k = 9 ∧ 129 < l.getD 0 0 ∧ m = 0 ∧ er = 2) ∨
      (l.getD 0 0 ≠ 128 ∧ k ≠ 10 ∧ k ≠ l.length ∧ ¬ (k = 9 ∧ 129 < l.getD 0 0) ∧ m = k + 1 ∧ er = 0) := by
  unfold endsL at hm
  rw [if_neg (by omega)] at hm
  generalize l.getD 0 0 = z at *
  by_cases hz : z = 128
  · rw [if_pos (.inl hz)] at hm
    injection hm with h1 h2
    exact .inl ⟨hz, h1.symm, h2.symm⟩
  · by_cases hk10 : k = 10
    · rw [if_pos (.inr (by omega))] at hm
      injection hm with h1 h2
      exact .inr (.inl ⟨hz, hk10, h1.symm, h2.symm⟩)
    · have hl : lead l = k := by omega
      rw [if_neg (by omega), hl] at hm
      by_cases hkn : k = l.length
      · rw [if_pos hkn] at hm
        injection hm with h1 h2
        exact .inr (.inr (.inl ⟨hz, hk10, hkn, h1.symm, h2.symm⟩))
      · rw [if_neg hkn] at hm
        by_cases h9 : k = 9 ∧ 129 < z
        · rw [if_pos h9] at hm
          injection hm with h1 h2
          exact .inr (.inr (.inr (.inl ⟨hz, hk10, hkn, h9.1, h9.2, h1.symm, h2.symm⟩)))
        · rw [if_neg h9] at hm
          injection hm with h1 h2
          exact .inr (.inr (.inr (.inr ⟨hz, hk10, hkn, h9, h1.symm, h2.symm⟩)))

set_option maxHeartbeats 1000000 in
set_option maxRecDepth 100000 in
theorem REnds_any (A : Option Addr) (c N : Nat) (l : List Int) (w : World) (hx : RdI w .u8 A c l) (hN : l.length = N) (hb : ∀ x ∈ l, 0 ≤ x ∧ x < 256) (m : Nat) (er : Int) (hm : endsL l = (m, er)) (hlen : N ≤ 1000000) :
    Calls Tryd.prog 29 #[.slice A N c] w fun r w' => r = .returned (.tuple #[.int .i64 m, .int .i64 er]) ∧ w = w' := by
  subst hN
  by_cases h0 : l.length = 0
  · have he := hm
    rw [endsL, if_pos h0] at he
    injection he with e1 e2
    subst e1 e2
    have hl : l = [] := List.eq_nil_of_length_eq_zero h0
    subst hl
    clear hm
    go_enter Tryd.func29, Tryd.ntmps29
    go_wp2
    go_loop [4] (fun i => i = .int .i64 0) (fun _ => 0)
    case atStart => exact rfl
    case round =>
      subst hrel
      go_wp2
      go_ret2
      exact ⟨rfl, rfl⟩
  · obtain ⟨ad, rfl, hcell⟩ := hx.all (by omega)
    have HC := Lib.hid hcell
    have hz : w.cell? ad = some (.int .u8 (l.getD 0 0)) := by simpa [Addr.add] using hcell 0 (by omega)
    have hzr := hb _ (getD_mem (l := l) (k := 0) (by omega))
    have HBR := Lib.hid hb
    have HALT := Lib.hid (fun k hk hkl => ends_alt (l := l) (k := k) hm hk (by omega) hkl)
    clear hcell hm hx hb
    go_enter Tryd.func29, Tryd.ntmps29
    go_wp2
    go_loop [4] (fun i => ∃ k : Nat, i = .int .i64 k ∧ k ≤ l.length ∧ k ≤ 10 ∧ Hid (k ≤ lead l)) (fun i => l.length - (intOf i).toNat)
    case atStart => exact ⟨0, rfl, by omega, by omega, Lib.hid (by omega)⟩
    case round =>
      obtain ⟨k, rfl, hk, hk10, HL⟩ := hrel
      by_cases hlt : k < l.length
      · by_cases hlt10 : k < 10
        · have hc := HC.out k hlt
          have hyr := HBR.out _ (getD_mem hlt)
          obtain ⟨hs1, hs2⟩ := lead_step l k HL.out hlt
          generalize l.getD k 0 = y at *
          by_cases hy : 128 ≤ y
          · have hl1 := Lib.hid (hs1 hy)
            clear hs1 hs2
            go_wp2
            go_round
            case rel => exact ⟨k + 1, by go_num, by omega, by omega, hl1⟩
            case measure => simp [intOf] <;> omega
          · have ALT := Lib.hid (HALT.out k (.inr ⟨hlt10, hs2 hy⟩) hk)
            clear hs1 hs2 HALT
            generalize l.getD 0 0 = z at *
            go_wp2
            all_goals go_ret2
            all_goals (have alt := ALT.out; refine ⟨?_, rfl⟩; simp; first | omega | (simp only [beq_iff_eq, beq_eq_false_iff_ne, ne_eq] at *; omega))
        · have ALT := Lib.hid (HALT.out k (.inl ⟨by omega, by have := HL.out; omega⟩) hk)
          clear HALT
          generalize l.getD 0 0 = z at *
          go_wp2
          all_goals go_ret2
          all_goals (have alt := ALT.out; refine ⟨?_, rfl⟩; simp; first | omega | (simp only [beq_iff_eq, beq_eq_false_iff_ne, ne_eq] at *; omega))
      · have hle := lead_le l
        have ALT := Lib.hid (HALT.out k (by have := HL.out; omega) hk)
        clear HALT hle
        generalize l.getD 0 0 = z at *
        go_wp2
        all_goals go_ret2
        all_goals (have alt := ALT.out; refine ⟨?_, rfl⟩; simp; first | omega | (simp only [beq_iff_eq, beq_eq_false_iff_ne, ne_eq] at *; omega))

set_option maxHeartbeats 1000000 in
set_option maxRecDepth 100000 in
theorem Read_any (A : Option Addr) (c : Nat) (l : List Int) (at_ : Nat) (bad lo hi : Int) (w : World) (hx : RdI w .u8 A c l) (hb : ∀ x ∈ l, 0 ≤ x ∧ x < 256) (hat : at_ ≤ l.length) (n : Int) (l2 : List Int) (e2 : Int) (hr : readS (l.drop at_) bad lo hi = (n, l2, e2)) (hlen : l.length ≤ 1000000) :
    Calls Tryd.prog 19 #[.agg #[.slice A l.length c, .int .i64 at_, .int .i64 bad], .int .i64 lo, .int .i64 hi] w fun r w' => ∃ at2 : Nat, r = .returned (.tuple #[.agg #[.slice A l.length c, .int .i64 at2, .int .i64 e2], .int .i64 n]) ∧ at2 ≤ l.length ∧ l2 = l.drop at2 ∧ Below w.heap.size w w' := by
  by_cases he : bad = 0
  · subst he
    obtain ⟨m, er, hm⟩ : ∃ m er, endsL (l.drop at_) = (m, er) := ⟨_, _, rfl⟩
    have hml := endsL_le (l.drop at_)
    rw [hm, List.length_drop] at hml
    have hcp := hx.le
    have hcm := hx.cap
    unfold maxLen at hcm
    have hs2 := fun w => sl_l A l.length c at_ w hat hcp
    have hct := hx.cut at_ (l.length - at_) (c - at_) (by omega) (by omega) (by omega)
    rw [List.take_of_length_le (by rw [List.length_drop]; exact Nat.le_refl _)] at hct
    have HX := Lib.hid hct
    have HM := Lib.hid hm
    have HBD : Hid (∀ x ∈ l.drop at_, 0 ≤ x ∧ x < 256) := Lib.hid (fun x hx => hb x (List.mem_of_mem_drop hx))
    have HLD : Hid ((l.drop at_).length = l.length - at_) := Lib.hid (List.length_drop ..)
    have HB := Lib.hid (below_two (below_lit w (.cells #[.slice A l.length c, .int .i64 at_, .int .i64 0] 43)) (below_lit _ (.cells #[.slice none 0 0, .int .i64 0, .int .i64 0] 43)))
    clear hx hct hm hb
    go_enter Tryd.func19, Tryd.ntmps19
    go_wp2_with fail
    refine (REnds_any _ _ (l.length - at_) (l.drop at_) _ (HX.out.below HB.out) HLD.out HBD.out m er HM.out (by omega)).mono ?_
    rintro r w' ⟨rfl, rfl⟩
    rw [readS, if_neg (by decide), HM.out] at hr
    simp only at hr
    by_cases her : er = 0
    · subst her
      rw [if_neg (by decide)] at hr
      have HRR := Lib.hid hr
      have HX2 := Lib.hid (HX.out.below HB.out)
      clear hr
      go_wp2_with fail
      go_loop [11, 12] (fun x i => ∃ k : Nat, i = .int .i64 k ∧ k ≤ m ∧ Hid (x = .int .u64 (valL ((l.drop at_).take k)))) (fun _ i => m - (intOf i).toNat)
      case atStart => exact ⟨0, rfl, by omega, Lib.hid rfl⟩
      case round =>
        obtain ⟨k, rfl, hk, HV⟩ := hrel
        obtain rfl := HV.out
        have hvr := valL_range ((l.drop at_).take k) 0 (by omega) (by omega)
        change 0 ≤ valL ((l.drop at_).take k) ∧ valL ((l.drop at_).take k) < 18446744073709551616 at hvr
        by_cases hlt : k < m
        · have hkl : k < (l.drop at_).length := by rw [HLD.out]; omega
          obtain ⟨ad, hA, hcell⟩ := RdI.all HX2.out (by omega)
          have hc := hcell k hkl
          have hyr := HBD.out _ (getD_mem hkl)
          have HS := Lib.hid (valL_snoc _ k hkl)
          clear hcell HV hkl
          generalize (l.drop at_).getD k 0 = y at *
          generalize valL ((l.drop at_).take k) = x at *
          have ho : IntKind.u64.wrap (IntKind.u64.wrap (x * 128) + y % 128) = stepV x y := by rw [IntKind.wrap_u64, IntKind.wrap_u64]; unfold stepV; omega
          go_wp2
          go_round
          case rel => exact ⟨k + 1, by go_num, by omega, Lib.hid (by rw [HS.out])⟩
          case measure => simp [intOf] <;> omega
        · obtain rfl : k = m := by omega
          have hq := HRR.out
          generalize valL ((l.drop at_).take k) = x at *
          have hur := unz_range x hvr.1 hvr.2
          have HQ := Lib.hid hq
          clear hq HRR HV
          by_cases hp : x % 2 = 1
          · have hu : unz x = -(x / 2) - 1 := by rw [unz, if_pos hp]
            have hpb : (x % 2 == 1) = true := by simpa using hp
            rw [hu] at HQ hur
            clear hu hp
            by_cases h1 : -(x / 2) - 1 < lo
            · have hq := HQ.out
              rw [if_pos (.inl h1)] at hq
              injection hq with q1 q2
              injection q2 with q2 q3
              subst q1 q2 q3
              clear HQ
              go_wp2
              refine bodyPost_ret (v := .tuple #[.agg #[.slice A l.length c, .int .i64 (((at_+k:Nat):Int)), .int .i64 2], .int .i64 (0)]) (by rw [results_cell_tmp Tryd.results19]; simp [loadVar, go_sem]) rfl ?_
              refine ⟨at_ + k, by simp, by omega, by first | rfl | (rw [List.drop_drop]; rfl) | (rw [List.drop_drop, Nat.add_comm]), ?_⟩
              exact below_two (below_lit w _) (below_lit _ _)
            · by_cases h2 : hi < -(x / 2) - 1
              · have hq := HQ.out
                rw [if_pos (.inr h2)] at hq
                injection hq with q1 q2
                injection q2 with q2 q3
                subst q1 q2 q3
                clear HQ
                go_wp2
                refine bodyPost_ret (v := .tuple #[.agg #[.slice A l.length c, .int .i64 (((at_+k:Nat):Int)), .int .i64 2], .int .i64 (0)]) (by rw [results_cell_tmp Tryd.results19]; simp [loadVar, go_sem]) rfl ?_
                refine ⟨at_ + k, by simp, by omega, by first | rfl | (rw [List.drop_drop]; rfl) | (rw [List.drop_drop, Nat.add_comm]), ?_⟩
                exact below_two (below_lit w _) (below_lit _ _)
              · have hq := HQ.out
                rw [if_neg (by omega)] at hq
                injection hq with q1 q2
                injection q2 with q2 q3
                subst q1 q2 q3
                clear HQ
                go_wp2
                refine bodyPost_ret (v := .tuple #[.agg #[.slice A l.length c, .int .i64 (((at_+k:Nat):Int)), .int .i64 0], .int .i64 (-(x/2)-1)]) (by rw [results_cell_tmp Tryd.results19]; simp [loadVar, go_sem]) rfl ?_
                refine ⟨at_ + k, by simp, by omega, by first | rfl | (rw [List.drop_drop]; rfl) | (rw [List.drop_drop, Nat.add_comm]), ?_⟩
                exact below_two (below_lit w _) (below_lit _ _)
          · have hu : unz x = x / 2 := by rw [unz, if_neg hp]
            have hpb : (x % 2 == 1) = false := by simpa using hp
            rw [hu] at HQ hur
            clear hu hp
            by_cases h1 : x / 2 < lo
            · have hq := HQ.out
              rw [if_pos (.inl h1)] at hq
              injection hq with q1 q2
              injection q2 with q2 q3
              subst q1 q2 q3
              clear HQ
              go_wp2
              refine bodyPost_ret (v := .tuple #[.agg #[.slice A l.length c, .int .i64 (((at_+k:Nat):Int)), .int .i64 2], .int .i64 (0)]) (by rw [results_cell_tmp Tryd.results19]; simp [loadVar, go_sem]) rfl ?_
              refine ⟨at_ + k, by simp, by omega, by first | rfl | (rw [List.drop_drop]; rfl) | (rw [List.drop_drop, Nat.add_comm]), ?_⟩
              exact below_two (below_lit w _) (below_lit _ _)
            · by_cases h2 : hi < x / 2
              · have hq := HQ.out
                rw [if_pos (.inr h2)] at hq
                injection hq with q1 q2
                injection q2 with q2 q3
                subst q1 q2 q3
                clear HQ
                go_wp2
                refine bodyPost_ret (v := .tuple #[.agg #[.slice A l.length c, .int .i64 (((at_+k:Nat):Int)), .int .i64 2], .int .i64 (0)]) (by rw [results_cell_tmp Tryd.results19]; simp [loadVar, go_sem]) rfl ?_
                refine ⟨at_ + k, by simp, by omega, by first | rfl | (rw [List.drop_drop]; rfl) | (rw [List.drop_drop, Nat.add_comm]), ?_⟩
                exact below_two (below_lit w _) (below_lit _ _)
              · have hq := HQ.out
                rw [if_neg (by omega)] at hq
                injection hq with q1 q2
                injection q2 with q2 q3
                subst q1 q2 q3
                clear HQ
                go_wp2
                refine bodyPost_ret (v := .tuple #[.agg #[.slice A l.length c, .int .i64 (((at_+k:Nat):Int)), .int .i64 0], .int .i64 (x/2)]) (by rw [results_cell_tmp Tryd.results19]; simp [loadVar, go_sem]) rfl ?_
                refine ⟨at_ + k, by simp, by omega, by first | rfl | (rw [List.drop_drop]; rfl) | (rw [List.drop_drop, Nat.add_comm]), ?_⟩
                exact below_two (below_lit w _) (below_lit _ _)
    · rw [if_pos her] at hr
      injection hr with q1 q2
      injection q2 with q2 q3
      subst q1 q2 q3
      have hb : (er != 0) = true := by simpa using her
      go_wp2
      refine bodyPost_ret (v := .tuple #[.agg #[.slice A l.length c, .int .i64 (at_), .int .i64 er], .int .i64 (0)]) (by rw [results_cell_tmp Tryd.results19]; simp [loadVar, go_sem]) rfl ?_
      refine ⟨at_, by simp, by omega, by first | rfl | (rw [List.drop_drop]; rfl) | (rw [List.drop_drop, Nat.add_comm]), ?_⟩
      exact below_two (below_lit w _) (below_lit _ _)
  · rw [readS, if_pos he] at hr
    injection hr with h1 hr
    injection hr with h2 h3
    subst h1 h2 h3
    have hb2 : (bad != 0) = true := by simpa using he
    go_enter Tryd.func19, Tryd.ntmps19
    go_wp2
    refine bodyPost_ret (v := .tuple #[.agg #[.slice A l.length c, .int .i64 (at_), .int .i64 bad], .int .i64 (0)]) (by rw [results_cell_tmp Tryd.results19]; simp [loadVar, go_sem]) rfl ?_
    refine ⟨at_, by simp, by omega, by first | rfl | (rw [List.drop_drop]; rfl) | (rw [List.drop_drop, Nat.add_comm]), ?_⟩
    exact below_two (below_lit w _) (below_lit _ _)
end Go.Proofs.YticebanhccgglaaDoor
