/- The walk of StackParts. -/
import Derived.Test.YtfoolkidcdoicaaAwake04
namespace Go.Proofs.Ytfoolkidcdoicaa
open Go.RowKit

theorem own_new4 (w : World) : (w.alloc (.cells #[] 3)).ownsRow w.heap.size 3 1 (.slice (some ⟨w.heap.size, 0, none⟩) 0 0) 0 [] := own_empty (heap_alloc_new _ _) (Nat.le_refl _)

theorem popE_no {n : Nat} {a : Nat} (h : n < a) : popE n a = -4 := by rw [popE, if_pos (by omega)]
theorem popE_yes {n : Nat} {a : Nat} (h : a ≤ n) : popE n a = 0 := by rw [popE, if_neg (by omega)]
theorem popR_yes {l : List Int} {a : Nat} (h : a ≤ l.length) : popR l a = l.take (l.length - a) := by rw [popR, if_pos (popE_yes h), Int.toNat_natCast]
theorem popT_yes {l : List Int} {a : Nat} (h : a ≤ l.length) : popT l a = l.drop (l.length - a) := by rw [popT, if_pos (popE_yes h), Int.toNat_natCast]
theorem popR_no {l : List Int} {a : Nat} (h : l.length < a) : popR l a = [] := by rw [popR, if_neg (by rw [popE_no h]; decide)]
theorem popT_no {l : List Int} {a : Nat} (h : l.length < a) : popT l a = [] := by rw [popT, if_neg (by rw [popE_no h]; decide)]
theorem popE_two {l : List Int} {a b : Nat} (h : a ≤ l.length) : popE (popR l a).length b = popE l.length ((a : Int) + b) := by
  rw [popR_yes h, List.length_take, popE, popE]
  congr 1
  apply propext
  omega
theorem popR_two {l : List Int} {a b : Nat} (h : a + b ≤ l.length) : popR (popR l a) b = popR l ((a : Int) + b) := by
  rw [show (a : Int) + b = ((a + b : Nat) : Int) by omega, popR_yes h, popR_yes (l := l) (a := a) (by omega), popR_yes (by rw [List.length_take]; omega), List.take_take, List.length_take]
  congr 1
  omega
theorem popT_two {l : List Int} {a b : Nat} (h : a + b ≤ l.length) : popT (popR l a) b ++ popT l a = popT l ((a : Int) + b) := by
  rw [show (a : Int) + b = ((a + b : Nat) : Int) by omega, popT_yes h, popR_yes (l := l) (a := a) (by omega), popT_yes (by rw [List.length_take]; omega), popT_yes (l := l) (a := a) (by omega), List.length_take, List.drop_take]
  rw [show min (l.length - a) l.length - b = l.length - (a + b) by omega, show l.length - a = (l.length - (a + b)) + b by omega, ← List.drop_drop]
  rw [show l.length - (a + b) + b - (l.length - (a + b)) = b by omega, List.take_append_drop]
theorem pick_top {l : List Int} {a : Nat} (h : a < l.length) : pickR l a = (popR l a).getD (l.length - a - 1) 0 := by
  have e1 : atE l.length a = 0 := by rw [atE, if_pos (by omega)]
  rw [pickR, if_pos e1, atR, if_pos (by omega), popR_yes (by omega), show ((l.length : Int) - 1 - a).toNat = l.length - a - 1 by omega]
  simp [List.getD_eq_getElem?_getD, List.getElem?_take]
  rw [if_pos (by omega)]

set_option maxHeartbeats 1000000 in
set_option maxRecDepth 100000 in
theorem StackParts_walk (A : Option Addr) (c : Nat) (n0 n1 : Nat) (l : List Int) (w : World) (hx : RdI w .i64 A c l) (hn0 : n0 < 256) (hn1 : n1 < 256) :
    Calls Try.prog 7 #[.slice A l.length c, .agg #[.int .u8 n0, .int .u8 n1]] w fun e w' => e = .returned (.bool true) ∧ Below w.heap.size w w' := by
  have HX := Lib.hid hx
  clear hx
  have ha : ((n0 : Int)).tmod 70 = ((n0 % 70 : Nat) : Int) := by rw [Int.tmod_eq_emod_of_nonneg (by omega)]; rfl
  have hb : ((n1 : Int)).tmod 70 = ((n1 % 70 : Nat) : Int) := by rw [Int.tmod_eq_emod_of_nonneg (by omega)]; rfl
  have ha1 : n0 % 70 < 70 := Nat.mod_lt _ (by omega)
  have hb1 : n1 % 70 < 70 := Nat.mod_lt _ (by omega)
  generalize n0 % 70 = a at ha ha1
  generalize n1 % 70 = b at hb hb1
  have HXB := Lib.hid (HX.out.below (below_lit w (.cells #[.int .u8 n0, .int .u8 n1] 36)))
  have HB0 := Lib.hid (below_lit w (.cells #[.int .u8 n0, .int .u8 n1] 36))
  go_enter Try.func7, Try.ntmps7
  go_wp2_with fail
  refine (awake_any _).mono ?_
  rintro e w1 ⟨rfl, hbl⟩
  (replace HXB := Lib.hid (Rd.below (Hid.out HXB) hbl))
  have g0 : w1.cell? ⟨w.heap.size, 0, none⟩ = some (.int .u8 n0) := (hbl.cell (p := ⟨w.heap.size, 0, none⟩) (by simp)).trans (by simp)
  have g1 : w1.cell? ⟨w.heap.size, 1, none⟩ = some (.int .u8 n1) := (hbl.cell (p := ⟨w.heap.size, 1, none⟩) (by simp)).trans (by simp)
  have HB := Lib.hid (below_two HB0.out hbl)
  clear hbl HX HB0
  by_cases h1 : 60 < l.length
  · go_wp2
    go_ret
    exact ⟨rfl, HB.out⟩
  go_wp2_with fail
  by_cases hal : a ≤ l.length
  · have hz := popE_yes hal
    have HZ := Lib.hid hz
    have hl1 : (popR l a).length = l.length - a := by rw [popR_yes hal, List.length_take]; omega
    have hpt : a < l.length → pickR l a = (popR l a).getD (l.length - a - 1) 0 := pick_top
    have HPT := Lib.hid hpt
    have HL1 := Lib.hid hl1
    have HE2 := Lib.hid (popE_two (l := l) (b := b) hal)
    have HE0 : Hid (popE l.length ((a : Int) + b) = 0 → a + b ≤ l.length) := Lib.hid (fun h => by
      rcases Nat.lt_or_ge l.length (a + b) with h2 | h2
      · rw [show (a : Int) + b = ((a + b : Nat) : Int) by omega, popE_no h2] at h
        cases h
      · exact h2)
    clear hz hl1 hpt
    refine (Pop_is A c a l w1 l.length _ _ 0 rfl rfl rfl HZ.out HXB.out (by omega)).mono ?_
    rintro e w2 ⟨A1, c1, A2, c2, rfl, hr1, hr2, hbl⟩
    (replace HXB := Lib.hid (Rd.below (Hid.out HXB) hbl))
    have HB := Lib.hid (below_two HB.out hbl)
    have g1 := (hbl.cell (World.block_lt_of_cell? _ _ g1)).trans g1
    have R1 := Lib.hid hr1
    have R2 := Lib.hid hr2
    clear hbl hr1 hr2
    go_wp2_with fail
    refine (Pop_is A1 c1 b (popR l a) w2 _ _ _ _ rfl rfl rfl HE2.out R1.out (by omega)).mono ?_
    rintro e w3 ⟨A3, c3, A4, c4, rfl, hr3, hr4, hbl⟩
    (replace HXB := Lib.hid (Rd.below (Hid.out HXB) hbl); replace R1 := Lib.hid (Rd.below (Hid.out R1) hbl); replace R2 := Lib.hid (Rd.below (Hid.out R2) hbl))
    have HB := Lib.hid (below_two HB.out hbl)
    have R3 := Lib.hid hr3
    have R4 := Lib.hid hr4
    clear hbl hr3 hr4
    go_wp2_with fail
    refine (Pop_is A c ((a : Int) + b) l w3 l.length _ _ _ rfl rfl rfl rfl HXB.out (by omega)).mono ?_
    rintro e w4 ⟨A5, c5, A6, c6, rfl, hr5, hr6, hbl⟩
    (replace HXB := Lib.hid (Rd.below (Hid.out HXB) hbl); replace R1 := Lib.hid (Rd.below (Hid.out R1) hbl); replace R2 := Lib.hid (Rd.below (Hid.out R2) hbl); replace R3 := Lib.hid (Rd.below (Hid.out R3) hbl); replace R4 := Lib.hid (Rd.below (Hid.out R4) hbl))
    have HB := Lib.hid (below_two HB.out hbl)
    have R5 := Lib.hid hr5
    have R6 := Lib.hid hr6
    clear hbl hr5 hr6
    go_wp2_with fail
    by_cases hlt : a < l.length
    · have hz3 : atE l.length a = 0 := by rw [atE, if_pos (by omega)]
      have HZ3 := Lib.hid hz3
      refine (Pick_is A c a l w4 l.length _ 0 rfl rfl HZ3.out HXB.out).mono ?_
      rintro e w5 ⟨rfl, hbl⟩
      (replace R1 := Lib.hid (Rd.below (Hid.out R1) hbl); replace R2 := Lib.hid (Rd.below (Hid.out R2) hbl); replace R3 := Lib.hid (Rd.below (Hid.out R3) hbl); replace R4 := Lib.hid (Rd.below (Hid.out R4) hbl); replace R5 := Lib.hid (Rd.below (Hid.out R5) hbl); replace R6 := Lib.hid (Rd.below (Hid.out R6) hbl))
      have HB := Lib.hid (below_two HB.out hbl)
      have hl1 := HL1.out
      obtain ⟨ad, rfl, hcell⟩ := RdI.all R1.out (by omega)
      have hc2 := hcell (l.length - a - 1) (by omega)
      rw [← HPT.out hlt] at hc2
      generalize pickR l a = y at hc2 ⊢
      clear hbl hcell hz3
      have HC2 := Lib.hid hc2
      clear hc2
      rw [hl1]
      have b0 : (decide (0 < l.length - a)) = true := by simp; omega
      have hc2 : w5.cell? (ad.add (l.length - a - 1)) = some (.int .i64 y) := HC2.out
      have b3 : a ≤ l.length := by omega
      by_cases hf : popE l.length ((a : Int) + b) = 0
      · have hab := HE0.out hf
        have HR := Lib.hid (popR_two hab)
        have HT := Lib.hid (popT_two hab)
        clear hab
        go_wp2_with fail
        refine (Same_is A3 A5 c3 c5 _ _ w5 _ _ true rfl rfl (by rw [HR.out]; simp) R3.out R5.out).mono ?_
        rintro e w6 ⟨rfl, hbl⟩
        (replace R2 := Lib.hid (Rd.below (Hid.out R2) hbl); replace R4 := Lib.hid (Rd.below (Hid.out R4) hbl); replace R6 := Lib.hid (Rd.below (Hid.out R6) hbl))
        have HB6 := Lib.hid (below_two HB.out hbl)
        clear hbl R3 R5 HB
        have hbl := below_lit w6 (.cells #[] 3)
        have HO := Lib.hid (own_new4 w6)
        have HX1 := Lib.hid (R4.out.below hbl)
        have HX2 := Lib.hid (R2.out.below hbl)
        have HB1 := Lib.hid hbl
        have hm1 : (popT (popR l a) b).length ≤ 1000 := by
          have e1 := congrArg List.length HT.out
          have e2 : (popT l ((a : Int) + b)).length ≤ l.length := by rw [popT]; split <;> simp
          rw [List.length_append] at e1
          omega
        have hm2 : (popT l a).length ≤ 1000 := by
          have e2 : (popT l (a : Int)).length ≤ l.length := by rw [popT]; split <;> simp
          omega
        clear hbl
        go_wp2_with (refine wp_take rfl ?_; refine wp_app (w0 := w6) rfl (.tmp 123) (.tmp 124) 22 3 (.int .i64 0) 1 8 rfl Try.underlying22 infoInt rfl (by decide) (by decide) w6.heap.size _ 0 [] rfl HO.out A4 (popT (popR l a) b).length c4 (nums .i64 (popT (popR l a) b)) rfl HX1.out (nums_one _ _) (by omega) HB1.out.size HB1.out ?_)
        intro v1 w7 ho hbl _
        have HO2 := Lib.hid ho
        have HX3 := Lib.hid (R2.out.below hbl)
        have HB2 := Lib.hid hbl
        clear ho hbl HO HX1 HX2 HB1
        go_wp2_with (refine wp_take rfl ?_; refine wp_app (w0 := w6) rfl (.tmp 125) (.tmp 126) 22 3 (.int .i64 0) 1 8 rfl Try.underlying22 infoInt rfl (by decide) (by decide) w6.heap.size _ _ _ rfl HO2.out A2 (popT l a).length c2 (nums .i64 (popT l a)) rfl HX3.out (nums_one _ _) (by omega) HB2.out.size HB2.out ?_)
        intro v2 w8 ho hbl _
        (replace R6 := Lib.hid (Rd.below (Hid.out R6) hbl))
        have HB8 := Lib.hid (below_two HB6.out hbl)
        rw [← show nums .i64 (popT (popR l a) b ++ popT l a) = nums .i64 (popT (popR l a) b) ++ nums .i64 (popT l a) by simp [nums], ← List.length_append, HT.out] at ho
        obtain ⟨D, cd, rfl, hr⟩ := Rd.own ho
        have RD := Lib.hid hr
        clear ho hbl hr
        go_wp2_with fail
        refine (Same_is D A6 cd c6 _ _ w8 _ _ true rfl rfl (by simp) RD.out R6.out).mono ?_
        rintro e w9 ⟨rfl, hbl⟩
        have HB9 := Lib.hid (below_two HB8.out hbl)
        clear hbl
        go_wp2
        go_ret
        exact ⟨rfl, HB9.out⟩
      · have hf2 : (popE l.length ((a : Int) + b) == 0) = false := by simpa using hf
        have hf3 : (popE l.length ((a : Int) + b) != 0) = true := by simpa using hf
        go_wp2
        go_ret
        exact ⟨rfl, HB.out⟩
    · obtain rfl : a = l.length := by omega
      have hz3 : atE l.length l.length = -4 := by rw [atE, if_neg (by omega)]
      have HZ3 := Lib.hid hz3
      clear hz3
      refine (Pick_is A c l.length l w4 l.length _ (-4) rfl rfl HZ3.out HXB.out).mono ?_
      rintro e w5 ⟨rfl, hbl⟩
      (replace R1 := Lib.hid (Rd.below (Hid.out R1) hbl); replace R2 := Lib.hid (Rd.below (Hid.out R2) hbl); replace R3 := Lib.hid (Rd.below (Hid.out R3) hbl); replace R4 := Lib.hid (Rd.below (Hid.out R4) hbl); replace R5 := Lib.hid (Rd.below (Hid.out R5) hbl); replace R6 := Lib.hid (Rd.below (Hid.out R6) hbl))
      have HB := Lib.hid (below_two HB.out hbl)
      clear hbl
      by_cases hf : popE l.length ((l.length : Int) + b) = 0
      · have hab := HE0.out hf
        have HR := Lib.hid (popR_two hab)
        have HT := Lib.hid (popT_two hab)
        clear hab
        go_wp2_with fail
        refine (Same_is A3 A5 c3 c5 _ _ w5 _ _ true rfl rfl (by rw [HR.out]; simp) R3.out R5.out).mono ?_
        rintro e w6 ⟨rfl, hbl⟩
        (replace R2 := Lib.hid (Rd.below (Hid.out R2) hbl); replace R4 := Lib.hid (Rd.below (Hid.out R4) hbl); replace R6 := Lib.hid (Rd.below (Hid.out R6) hbl))
        have HB6 := Lib.hid (below_two HB.out hbl)
        clear hbl R3 R5 HB
        have hbl := below_lit w6 (.cells #[] 3)
        have HO := Lib.hid (own_new4 w6)
        have HX1 := Lib.hid (R4.out.below hbl)
        have HX2 := Lib.hid (R2.out.below hbl)
        have HB1 := Lib.hid hbl
        have hm1 : (popT (popR l l.length) b).length ≤ 1000 := by
          have e1 := congrArg List.length HT.out
          have e2 : (popT l ((l.length : Int) + b)).length ≤ l.length := by rw [popT]; split <;> simp
          rw [List.length_append] at e1
          omega
        have hm2 : (popT l l.length).length ≤ 1000 := by
          have e2 : (popT l (l.length : Int)).length ≤ l.length := by rw [popT]; split <;> simp
          omega
        clear hbl
        go_wp2_with (refine wp_take rfl ?_; refine wp_app (w0 := w6) rfl (.tmp 123) (.tmp 124) 22 3 (.int .i64 0) 1 8 rfl Try.underlying22 infoInt rfl (by decide) (by decide) w6.heap.size _ 0 [] rfl HO.out A4 (popT (popR l l.length) b).length c4 (nums .i64 (popT (popR l l.length) b)) rfl HX1.out (nums_one _ _) (by omega) HB1.out.size HB1.out ?_)
        intro v1 w7 ho hbl _
        have HO2 := Lib.hid ho
        have HX3 := Lib.hid (R2.out.below hbl)
        have HB2 := Lib.hid hbl
        clear ho hbl HO HX1 HX2 HB1
        go_wp2_with (refine wp_take rfl ?_; refine wp_app (w0 := w6) rfl (.tmp 125) (.tmp 126) 22 3 (.int .i64 0) 1 8 rfl Try.underlying22 infoInt rfl (by decide) (by decide) w6.heap.size _ _ _ rfl HO2.out A2 (popT l l.length).length c2 (nums .i64 (popT l l.length)) rfl HX3.out (nums_one _ _) (by omega) HB2.out.size HB2.out ?_)
        intro v2 w8 ho hbl _
        (replace R6 := Lib.hid (Rd.below (Hid.out R6) hbl))
        have HB8 := Lib.hid (below_two HB6.out hbl)
        rw [← show nums .i64 (popT (popR l l.length) b ++ popT l l.length) = nums .i64 (popT (popR l l.length) b) ++ nums .i64 (popT l l.length) by simp [nums], ← List.length_append, HT.out] at ho
        obtain ⟨D, cd, rfl, hr⟩ := Rd.own ho
        have RD := Lib.hid hr
        clear ho hbl hr
        go_wp2_with fail
        refine (Same_is D A6 cd c6 _ _ w8 _ _ true rfl rfl (by simp) RD.out R6.out).mono ?_
        rintro e w9 ⟨rfl, hbl⟩
        have HB9 := Lib.hid (below_two HB8.out hbl)
        clear hbl
        go_wp2
        go_ret
        exact ⟨rfl, HB9.out⟩
      · have hf2 : (popE l.length ((l.length : Int) + b) == 0) = false := by simpa using hf
        have hf3 : (popE l.length ((l.length : Int) + b) != 0) = true := by simpa using hf
        go_wp2
        go_ret
        exact ⟨rfl, HB.out⟩
  · have hz := popE_no (n := l.length) (a := a) (by omega)
    have hz2 : popE l.length ((a : Int) + b) = -4 := by
      rw [show (a : Int) + b = ((a + b : Nat) : Int) by omega]
      exact popE_no (by omega)
    have hz3 : atE l.length a = -4 := by rw [atE, if_neg (by omega)]
    have HZ := Lib.hid hz
    have HZ2 := Lib.hid hz2
    have HZ3 := Lib.hid hz3
    clear hz hz2 hz3
    refine (Pop_is A c a l w1 l.length _ _ (-4) rfl rfl rfl HZ.out HXB.out (by omega)).mono ?_
    rintro e w2 ⟨A1, c1, A2, c2, rfl, hr1, hr2, hbl⟩
    (replace HXB := Lib.hid (Rd.below (Hid.out HXB) hbl))
    have HB := Lib.hid (below_two HB.out hbl)
    have g1 := (hbl.cell (World.block_lt_of_cell? _ _ g1)).trans g1
    have R1 := Lib.hid hr1
    clear hbl hr1 hr2
    go_wp2_with fail
    refine (Pop_is A1 c1 b (popR l a) w2 _ _ _ _ rfl rfl rfl rfl R1.out (by omega)).mono ?_
    rintro e w3 ⟨A3, c3, A4, c4, rfl, hr3, hr4, hbl⟩
    (replace HXB := Lib.hid (Rd.below (Hid.out HXB) hbl))
    have HB := Lib.hid (below_two HB.out hbl)
    clear hbl hr3 hr4 R1
    go_wp2_with fail
    refine (Pop_is A c ((a : Int) + b) l w3 l.length _ _ (-4) rfl rfl rfl HZ2.out HXB.out (by omega)).mono ?_
    rintro e w4 ⟨A5, c5, A6, c6, rfl, hr5, hr6, hbl⟩
    (replace HXB := Lib.hid (Rd.below (Hid.out HXB) hbl))
    have HB := Lib.hid (below_two HB.out hbl)
    clear hbl hr5 hr6
    go_wp2_with fail
    refine (Pick_is A c a l w4 l.length _ (-4) rfl rfl HZ3.out HXB.out).mono ?_
    rintro e w5 ⟨rfl, hbl⟩
    have HB := Lib.hid (below_two HB.out hbl)
    clear hbl
    go_wp2
    go_ret
    exact ⟨rfl, HB.out⟩
theorem StackParts_int (A : Option Addr) (c : Nat) (n0 n1 : Int) (l : List Int) (w : World) (hx : RdI w .i64 A c l) (h0 : (Lit.int .u8 n0).wf = true) (h1 : (Lit.int .u8 n1).wf = true) :
    Calls Try.prog 7 #[.slice A l.length c, .agg #[.int .u8 n0, .int .u8 n1]] w fun e w' => e = .returned (.bool true) ∧ Below w.heap.size w w' := by
  have h0 := wf_u8 h0
  have h1 := wf_u8 h1
  obtain ⟨n0, rfl⟩ := Int.eq_ofNat_of_zero_le h0.1
  obtain ⟨n1, rfl⟩ := Int.eq_ofNat_of_zero_le h1.1
  exact StackParts_walk A c n0 n1 l w hx (by omega) (by omega)
end Go.Proofs.Ytfoolkidcdoicaa
