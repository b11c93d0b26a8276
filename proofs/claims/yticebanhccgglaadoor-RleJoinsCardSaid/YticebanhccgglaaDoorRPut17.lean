
/- nostosref17.Put. -/
import Derived.Test.YticebanhccgglaaDoorPlain17
import Derived.Test.YticebanhccgglaaDoorRef16
import Derived.StillTailTactics
import Derived.Deep.QuietTactic
import Derived.BigQuiet
namespace Go.Proofs.YticebanhccgglaaDoor
open Go.RowKit

theorem encR_len (n : Nat) (x : Int) (h : n ≤ 1000000) : (encR (n, x)).length ≤ 11 := by
  have := grp_len (zz_lt (n := (n : Int)) (by omega) (by omega))
  unfold encR
  simp
  omega

set_option maxHeartbeats 2000000 in
theorem RPut_any (A : Option Addr) (c N : Nat) (l : List Int) (w : World) (hN : l.length = N) (hx : RdI w .u8 A c l) (hlen : N ≤ 1000000) :
    Calls Tryd.prog 10 #[.slice A N c] w fun e w' => ∃ x, e = .returned x ∧ w'.ownsRow w.heap.size 5 1 x (putR l).length (nums .u8 (putR l)) ∧ Below w.heap.size w w' := by
  have HN := Lib.hid hN
  have HX := Lib.hid hx
  have hle := hx.le
  have hcp := hx.cap
  unfold maxLen at hcp
  rw [hN] at hle
  have HB0 := Lib.hid (Below.refl w.heap.size w)
  have HP0 : Hid (putR l = [] ++ putR (l.drop 0)) := Lib.hid (by simp)
  clear hN hx
  go_enter Tryd.func10, Tryd.ntmps10
  go_wp2_with fail
  go_loopw [3, 4] (fun v y wr => ∃ (i : Nat) (P : List Int), y = .int .i64 i ∧ i ≤ N ∧ P.length ≤ 11 * i ∧ Hid (putR l = P ++ putR (l.drop i)) ∧ Hid (wr.ownsRow w.heap.size 5 1 v P.length (nums .u8 P)) ∧ Hid (Below w.heap.size w wr)) (fun _ y _ => N - (intOf y).toNat)
  case atStart => exact ⟨0, [], rfl, by omega, Nat.le_refl _, HP0, Lib.hid ⟨rfl, .inl ⟨rfl, rfl⟩⟩, HB0⟩
  case round =>
    obtain ⟨i, P, rfl, hi, hPl, HP, HO, HB⟩ := hrel
    by_cases hlt : i < N
    · obtain ⟨ad, rfl, e0⟩ := RdI.at_ (HX.out.below HB.out) (show i < l.length by rw [HN.out]; exact hlt)
      obtain ⟨x, hx⟩ : ∃ x, l.getD i 0 = x := ⟨_, rfl⟩
      rw [hx] at e0
      have HXI := Lib.hid hx
      clear hx
      have HS1 : Hid (∀ j, j < 1 → l.getD (i + j) 0 = x) := Lib.hid (fun j hj => by
        obtain rfl : j = 0 := by omega
        exact HXI.out)
      have HBr := Lib.hid (Below.refl wr.heap.size wr)
      obtain ⟨wr0, hwr0⟩ : ∃ w, w = wr := ⟨_, rfl⟩
      rw [← hwr0] at HB HO HBr e0 ⊢
      clear hwr0
      go_wp2_with fail
      go_loopw [5] (fun y wi => ∃ (k : Nat), y = .int .i64 k ∧ 1 ≤ k ∧ i + k ≤ N ∧ Hid (∀ j, j < k → l.getD (i + j) 0 = x) ∧ Hid (Below wr0.heap.size wr0 wi)) (fun y _ => N - (intOf y).toNat)
      case atStart => exact ⟨1, rfl, by omega, by omega, HS1, HBr⟩
      case round =>
        clear HS1 HBr
        obtain ⟨k, rfl, hk1, hkN, HS, HBI⟩ := hrel
        have HBB := Lib.hid (below_two HB.out HBI.out)
        have hfin : ∀ h3 : (i + k < l.length → l.getD (i + k) 0 ≠ x), leadEq (l.getD i 0) (l.drop i) = k := fun h3 => by
          rw [HXI.out]
          refine leadEq_is (by rw [List.length_drop, HN.out]; omega) (fun j hj => ?_) (fun h => ?_)
          · have := HS.out j hj
            simpa [List.getD_eq_getElem?_getD] using this
          · have := h3 (by rw [List.length_drop] at h; omega)
            simpa [List.getD_eq_getElem?_getD] using this
        have HFIN := Lib.hid hfin
        clear hfin
        by_cases hk2 : i + k < N
        · obtain ⟨ad', had, e1⟩ := RdI.at_ (HX.out.below HBB.out) (show i + k < l.length by rw [HN.out]; exact hk2)
          cases had
          obtain ⟨y, hy⟩ : ∃ y, l.getD (i + k) 0 = y := ⟨_, rfl⟩
          rw [hy] at e1
          have HYK := Lib.hid hy
          clear hy
          obtain ⟨ad', had, e0⟩ := RdI.at_ (HX.out.below HBB.out) (show i < l.length by rw [HN.out]; exact hlt)
          cases had
          rw [HXI.out] at e0
          obtain ⟨m, hm⟩ : ∃ m, i + k = m := ⟨_, rfl⟩
          have hw : IntKind.i64.wrap ((i : Int) + (k : Int)) = (m : Int) := by rw [IntKind.wrap_i64]; omega
          have hmN : (m : Int) < (N : Int) := by omega
          have hm0 : (0 : Int) ≤ (m : Int) := by omega
          have hi0 : (0 : Int) ≤ (i : Int) := by omega
          have hiN : (i : Int) < (N : Int) := by omega
          rw [hm] at e1
          have HM := Lib.hid hm
          clear hm
          by_cases hyx : y = x
          · subst hyx
            go_wp2_with fail
            go_quiet (fail)
            have HBI2 := Lib.hid (below_two HBI.out (below_drewN wr nq))
            go_wp2
            go_roundw
            case rel =>
              have hmm := HM.out
              refine ⟨k + 1, by go_num, by omega, by omega, Lib.hid (fun j hj => ?_), HBI2⟩
              by_cases hjk : j < k
              · exact HS.out j hjk
              · obtain rfl : j = k := by omega
                exact HYK.out
            case measure => simp [intOf] <;> omega
          · have hfin := HFIN.out (fun _ => by rw [HYK.out]; exact hyx)
            have byx : (y == x) = false := by simpa using hyx
            have HFN := Lib.hid hfin
            clear hfin
            go_wp2_with fail
            go_quiet (fail)
            obtain ⟨w5, hw5⟩ : ∃ w5, wr.drewN nq = w5 := ⟨_, rfl⟩
            have HB5 : Hid (Below wr0.heap.size wr0 w5) := Lib.hid (by rw [← hw5]; exact below_two HBI.out (below_drewN wr nq))
            rw [hw5]
            have HBB5 := Lib.hid (below_two HB.out HB5.out)
            have HO5 := Lib.hid (own_below HO.out HB5.out)
            obtain ⟨hn1, hn2, hput⟩ := putR_at (show i < l.length by rw [HN.out]; exact hlt) HFN.out
            rw [HXI.out] at hput
            have HPUT := Lib.hid hput
            obtain ⟨G, hG⟩ : ∃ G, grp (zz (k : Int)) = G := ⟨_, rfl⟩
            have hGl : G.length ≤ 10 := by
              rw [← hG]
              exact (grp_len (zz_lt (n := (k : Int)) (by omega) (by omega))).2
            have HGG := Lib.hid hG
            obtain ⟨K, hK⟩ : ∃ K, G.length = K := ⟨_, rfl⟩
            rw [hK] at hGl
            have HKK := Lib.hid hK
            clear hw5 hput hn1 hn2 hG hK e0 e1 hw hmN hm0 hi0 hiN byx hyx
            go_wp2_with fail
            refine (RNum_any k w5 (by omega) (by omega) G K HGG.out HKK.out).mono ?_
            rintro e w6 ⟨x6, rfl, ho, hb⟩
            obtain ⟨A6, c6, rfl, hr⟩ := Rd.own ho
            have HO6 := Lib.hid (own_below HO5.out hb)
            have HB6 := Lib.hid (below_two HBB5.out hb)
            have HR6 := Lib.hid hr
            have hs6 := HB6.out.size
            clear ho hb hr HO5
            go_wp2_with (refine wp_app (w0 := w6) rfl (.tmp 31) (.tmp 33) 22 5 (.int .u8 0) 1 1 rfl Tryd.underlying22 infoU8 rfl (by decide) (by decide) w.heap.size _ P.length (nums .u8 P) rfl HO6.out A6 K c6 (nums .u8 G) rfl HR6.out (nums_one _ _) (by omega) hs6 ((Below.refl _ _).mono hs6) ?_)
            intro v7 w7 ho hb _
            have HO7 := Lib.hid ho
            have HB7 := Lib.hid (HB6.out.trans hb)
            have hs7 := HB7.out.size
            obtain ⟨ad', had, e0⟩ := RdI.at_ (HX.out.below HB7.out) (show i < l.length by rw [HN.out]; exact hlt)
            cases had
            rw [HXI.out] at e0
            clear ho hb HO6 HR6
            go_wp2_with (refine wp_app1 (w0 := w7) rfl (.tmp 35) (.tmp 40) 22 5 (.int .u8 0) 1 rfl Tryd.underlying22 infoU8 rfl (by decide) w.heap.size _ (P.length + K) (nums .u8 P ++ nums .u8 G) (.int .u8 x) rfl HO7.out rfl rfl (by omega) hs7 ((Below.refl _ _).mono hs7) ?_)
            intro v8 w8 ho hb _
            have HO8 := Lib.hid ho
            have HB8 := Lib.hid (HB7.out.trans hb)
            clear ho hb HO7 e0
            go_wp2
            go_roundw
            case rel =>
              have hKK := HKK.out
              refine ⟨i + k, P ++ (G ++ [x]), by go_num, by omega, by simp; omega, Lib.hid ?_, Lib.hid ?_, HB8⟩
              · rw [HP.out, HPUT.out, List.append_assoc]
                show P ++ (encR (k, x) ++ _) = _
                unfold encR
                rw [HGG.out]
              · have e : (P ++ (G ++ [x])).length = P.length + K + 1 := by simp; omega
                rw [e]
                simpa [nums] using HO8.out
            case measure => simp [intOf] <;> omega
        · have hik : i + k = N := by omega
          have hw : IntKind.i64.wrap ((i : Int) + (k : Int)) = (N : Int) := by rw [IntKind.wrap_i64]; omega
          have hfin := HFIN.out (fun h => by rw [HN.out] at h; omega)
          have HFN := Lib.hid hfin
          clear hfin
          go_wp2_with fail
          go_quiet (fail)
          obtain ⟨w5, hw5⟩ : ∃ w5, wr.drewN nq = w5 := ⟨_, rfl⟩
          have HB5 : Hid (Below wr0.heap.size wr0 w5) := Lib.hid (by rw [← hw5]; exact below_two HBI.out (below_drewN wr nq))
          rw [hw5]
          have HBB5 := Lib.hid (below_two HB.out HB5.out)
          have HO5 := Lib.hid (own_below HO.out HB5.out)
          obtain ⟨hn1, hn2, hput⟩ := putR_at (show i < l.length by rw [HN.out]; exact hlt) HFN.out
          rw [HXI.out] at hput
          have HPUT := Lib.hid hput
          obtain ⟨G, hG⟩ : ∃ G, grp (zz (k : Int)) = G := ⟨_, rfl⟩
          have hGl : G.length ≤ 10 := by
            rw [← hG]
            exact (grp_len (zz_lt (n := (k : Int)) (by omega) (by omega))).2
          have HGG := Lib.hid hG
          obtain ⟨K, hK⟩ : ∃ K, G.length = K := ⟨_, rfl⟩
          rw [hK] at hGl
          have HKK := Lib.hid hK
          clear hw5 hput hn1 hn2 hG hK e0 hw
          go_wp2_with fail
          refine (RNum_any k w5 (by omega) (by omega) G K HGG.out HKK.out).mono ?_
          rintro e w6 ⟨x6, rfl, ho, hb⟩
          obtain ⟨A6, c6, rfl, hr⟩ := Rd.own ho
          have HO6 := Lib.hid (own_below HO5.out hb)
          have HB6 := Lib.hid (below_two HBB5.out hb)
          have HR6 := Lib.hid hr
          have hs6 := HB6.out.size
          clear ho hb hr HO5
          go_wp2_with (refine wp_app (w0 := w6) rfl (.tmp 31) (.tmp 33) 22 5 (.int .u8 0) 1 1 rfl Tryd.underlying22 infoU8 rfl (by decide) (by decide) w.heap.size _ P.length (nums .u8 P) rfl HO6.out A6 K c6 (nums .u8 G) rfl HR6.out (nums_one _ _) (by omega) hs6 ((Below.refl _ _).mono hs6) ?_)
          intro v7 w7 ho hb _
          have HO7 := Lib.hid ho
          have HB7 := Lib.hid (HB6.out.trans hb)
          have hs7 := HB7.out.size
          obtain ⟨ad', had, e0⟩ := RdI.at_ (HX.out.below HB7.out) (show i < l.length by rw [HN.out]; exact hlt)
          cases had
          rw [HXI.out] at e0
          clear ho hb HO6 HR6
          go_wp2_with (refine wp_app1 (w0 := w7) rfl (.tmp 35) (.tmp 40) 22 5 (.int .u8 0) 1 rfl Tryd.underlying22 infoU8 rfl (by decide) w.heap.size _ (P.length + K) (nums .u8 P ++ nums .u8 G) (.int .u8 x) rfl HO7.out rfl rfl (by omega) hs7 ((Below.refl _ _).mono hs7) ?_)
          intro v8 w8 ho hb _
          have HO8 := Lib.hid ho
          have HB8 := Lib.hid (HB7.out.trans hb)
          clear ho hb HO7 e0
          go_wp2
          go_roundw
          case rel =>
            have hKK := HKK.out
            refine ⟨i + k, P ++ (G ++ [x]), by go_num, by omega, by simp; omega, Lib.hid ?_, Lib.hid ?_, HB8⟩
            · rw [HP.out, HPUT.out, List.append_assoc]
              show P ++ (encR (k, x) ++ _) = _
              unfold encR
              rw [HGG.out]
            · have e : (P ++ (G ++ [x])).length = P.length + K + 1 := by simp; omega
              rw [e]
              simpa [nums] using HO8.out
          case measure => simp [intOf] <;> omega
    · obtain rfl : i = N := by omega
      have hp := HP.out
      rw [List.drop_eq_nil_of_le (by rw [HN.out]; exact Nat.le_refl _), putR_nil, List.append_nil] at hp
      go_wp2
      go_ret
      rw [hp]
      exact ⟨_, rfl, HO.out, HB.out⟩
end Go.Proofs.YticebanhccgglaaDoor
