
/- The walk of RleBack. -/
import Derived.Test.YticebanhccgglaaDoorAwake17
import Derived.Test.YticebanhccgglaaDoorPlain17e
import Derived.Deep.RegionHeld
namespace Go.Proofs.YticebanhccgglaaDoor
open Go.RowKit

theorem takeT_pos {m : Int} (h : 0 ≤ m) (l : List Int) : takeT m l = takeR m [] l := by
  unfold takeT
  rw [if_neg (by omega)]

set_option maxHeartbeats 2000000 in
set_option maxRecDepth 100000 in
theorem RleBack_walk (A : Option Addr) (c : Nat) (b : List Int) (cut : Int) (w : World) (hx : RdI w .u8 A c b) (hb : ∀ x ∈ b, 0 ≤ x ∧ x < 256) (hm0 : 0 ≤ cut) (hm1 : cut < 256) :
    Calls Tryd.prog 5 #[.slice A b.length c, .int .u8 cut] w fun e w' => e = .returned (.bool true) ∧ Below w.heap.size w w' := by
  obtain ⟨n, hn⟩ : ∃ n, b.length = n := ⟨_, rfl⟩
  have hx' : Rd w A n c 1 (nums .u8 b) := by rw [← hn]; exact hx
  have HX := Lib.hid hx'
  have HBR := Lib.hid hb
  have HN := Lib.hid hn
  have hle := hx'.le
  have hcm := hx'.cap
  unfold maxLen at hcm
  rw [hn]
  clear hx hb hn hx'
  go_enter Tryd.func5, Tryd.ntmps5
  go_wp2_with fail
  refine (awake_any w).mono ?_
  rintro e w1 ⟨rfl, hb⟩
  have HB := Lib.hid hb
  have HX1 := Lib.hid (HX.out.below hb)
  clear hb
  by_cases h300 : 300 < n
  · go_wp2
    go_ret
    exact ⟨rfl, HB.out⟩
  obtain ⟨P, hP⟩ : ∃ P, putR b = P := ⟨_, rfl⟩
  obtain ⟨k, hk⟩ : ∃ k, P.length = k := ⟨_, rfl⟩
  have hle2 := putR_le 300 b (by rw [HN.out]; omega) (by decide)
  rw [hP, hk, HN.out] at hle2
  have hPr : ∀ x ∈ P, 0 ≤ x ∧ x < 256 := by rw [← hP]; exact putR_range b.length b (Nat.le_refl _) HBR.out
  have T0 : Hid (takeT (n : Int) P = (b, 0)) := Lib.hid (by
    have := take_put (n : Int) [] b.length b [] (Nat.le_refl _) (fun x _ => by simp) (by rw [List.length_nil, Nat.zero_add, HN.out]) (by omega)
    rw [List.append_nil, if_pos rfl, List.nil_append, hP] at this
    rw [takeT_pos (by omega), this])
  have T1 : Hid (takeT ((n : Int) + 1) P = ([], 3)) := Lib.hid (by
    have := take_more ((n : Int) + 1) b (by rw [HN.out]; omega) (by omega)
    rw [hP] at this
    rw [takeT_pos (by omega), this])
  have T2 : Hid (0 < n → takeT ((n : Int) - 1) P = ([], 2)) := Lib.hid (fun h0 => by
    have := take_less ((n : Int) - 1) [] b.length b [] (Nat.le_refl _) (fun x _ => by simp) (by simp; omega) (by rw [List.length_nil, Nat.zero_add, HN.out]; omega) (by rw [List.length_nil, HN.out]; omega)
    rw [List.append_nil, hP] at this
    rw [takeT_pos (by omega), this])
  have T3 : Hid (∀ j, j < k → takeT (n : Int) (P.take j) = ([], 3)) := Lib.hid (fun j hj => by
    have := take_cut (n : Int) b.length b [] j (Nat.le_refl _) (fun x _ => by simp) (by rw [List.length_nil, Nat.zero_add, HN.out]) (by omega) (by rw [hP, hk]; exact hj)
    rw [hP] at this
    rw [takeT_pos (by omega), this])
  have HP := Lib.hid hP
  have HK := Lib.hid hk
  have HPR := Lib.hid hPr
  clear hP hk hPr
  go_wp2_with fail
  refine (Put_is A c n b P k w1 HN.out HP.out HK.out HX1.out HBR.out (by omega)).mono ?_
  rintro e w2 ⟨A2, c2, rfl, hr, hb⟩
  have HB := Lib.hid (below_two HB.out hb)
  have HX2 := Lib.hid (HX1.out.below hb)
  have HR2 := Lib.hid hr
  have hk2 := hr.le
  have hc2 := hr.cap
  unfold maxLen at hc2
  clear hb hr HX1 HX
  go_wp2_with fail
  refine (Take_is A2 c2 k P n b n 0 w2 HK.out T0.out HN.out HR2.out HPR.out (by omega) (by omega)).mono ?_
  rintro e w3 ⟨A3, c3, rfl, hr, hb⟩
  have HB := Lib.hid (below_two HB.out hb)
  have HX3 := Lib.hid (HX2.out.below hb)
  have HR3 := Lib.hid (HR2.out.below hb)
  have HS3 := Lib.hid hr
  clear hb hr HX2 HR2
  go_wp2_with fail
  refine (Take_is A2 c2 k P ((n : Int) + 1) [] 0 3 w3 HK.out T1.out rfl HR3.out HPR.out (by omega) (by omega)).mono ?_
  rintro e w4 ⟨A4, c4, rfl, hr, hb⟩
  have HB := Lib.hid (below_two HB.out hb)
  have HX4 := Lib.hid (HX3.out.below hb)
  have HR4 := Lib.hid (HR3.out.below hb)
  have HS4 := Lib.hid (HS3.out.below hb)
  clear hb hr HX3 HR3 HS3
  by_cases h0 : n = 0
  · subst h0
    go_wp2
    go_ret
    exact ⟨rfl, HB.out⟩
  have hn0 : ((n : Int) == 0) = false := by
    have : (n : Int) ≠ 0 := by omega
    simpa using this
  have hnn : ¬ (n : Int) = 0 := by omega
  go_wp2_with fail
  refine (Take_is A2 c2 k P ((n : Int) - 1) [] 0 2 w4 HK.out (T2.out (by omega)) rfl HR4.out HPR.out (by omega) (by omega)).mono ?_
  rintro e w5 ⟨A5, c5, rfl, hr, hb⟩
  have HB := Lib.hid (below_two HB.out hb)
  have HX5 := Lib.hid (HX4.out.below hb)
  have HR5 := Lib.hid (HR4.out.below hb)
  have HS5 := Lib.hid (HS4.out.below hb)
  clear hb hr HX4 HR4 HS4
  have hk0 : 0 < k := hle2.2 (by omega)
  have hk600 : k ≤ 600 := by omega
  obtain ⟨j, hj⟩ : ∃ j : Nat, cut % (k : Int) = j := ⟨(cut % (k : Int)).toNat, by have := Int.emod_nonneg cut (show (k : Int) ≠ 0 by omega); omega⟩
  have hjk : j < k := by have := Int.emod_lt_of_pos cut (show (0 : Int) < k by omega); omega
  have hmax : max (k : Int) 1 = (k : Int) := by omega
  have hrem : cut.tmod (k : Int) = (j : Int) := by rw [Int.tmod_eq_emod_of_nonneg hm0, hj]
  have hwc : IntKind.i64.wrap cut = cut := by rw [IntKind.wrap_i64]; omega
  have hkne : ¬ (k : Int) = 0 := by omega
  have hs := fun w => sl_h A2 k c2 j w (by omega)
  have hcut : Rd w5 A2 j c2 1 (nums .u8 (P.take j)) := by
    have := RdI.cut (xs := P) (by rw [RdI, HK.out]; exact HR5.out) 0 j c2 (by rw [HK.out]; omega) (by omega) (Nat.le_refl _)
    have hz : cutA A2 0 c2 = A2 := by unfold cutA; split <;> simp [Addr.add]
    have hl : ((P.drop 0).take j).length = j := by rw [List.drop_zero, List.length_take, HK.out]; omega
    rw [hz, RdI, hl, List.drop_zero] at this
    exact this
  have HLJ : Hid ((P.take j).length = j) := Lib.hid (by rw [List.length_take, HK.out]; omega)
  have HCUT := Lib.hid hcut
  clear hcut hj hle2
  go_wp2_with fail
  refine (Take_is A2 c2 j (P.take j) n [] 0 3 w5 HLJ.out (T3.out j hjk) rfl HCUT.out (fun x hx => HPR.out x (List.mem_of_mem_take hx)) (by omega) (by omega)).mono ?_
  rintro e w6 ⟨A6, c6, rfl, hr, hb⟩
  have HB := Lib.hid (below_two HB.out hb)
  have q1 := conv_all HN.out (HX5.out.below hb) w6 (Below.refl _ _)
  have q2 := conv_all HN.out (HS5.out.below hb) w6 (Below.refl _ _)
  clear hr hb
  go_wp2
  go_ret
  exact ⟨rfl, HB.out⟩
end Go.Proofs.YticebanhccgglaaDoor
