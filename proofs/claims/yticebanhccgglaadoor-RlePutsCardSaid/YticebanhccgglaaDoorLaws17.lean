
/- The walks of RlePuts, RleTakes, RleOne. -/
import Derived.Test.YticebanhccgglaaDoorAwake17
import Derived.Deep.RegionHeld
import Derived.Deep.RegionHeld3
namespace Go.Proofs.YticebanhccgglaaDoor
open Go.RowKit

set_option maxHeartbeats 2000000 in
set_option maxRecDepth 100000 in
theorem RlePuts_walk (A : Option Addr) (c : Nat) (b : List Int) (w : World) (hx : RdI w .u8 A c b) (hb : ∀ x ∈ b, 0 ≤ x ∧ x < 256) :
    Calls Tryd.prog 3 #[.slice A b.length c] w fun e w' => e = .returned (.bool true) ∧ Below w.heap.size w w' := by
  obtain ⟨n, hn⟩ : ∃ n, b.length = n := ⟨_, rfl⟩
  have hx' : Rd w A n c 1 (nums .u8 b) := by rw [← hn]; exact hx
  have HX := Lib.hid hx'
  have HBR := Lib.hid hb
  have HN := Lib.hid hn
  have hle := hx'.le
  have hcm := hx'.cap
  unfold maxLen at hcm
  rw [hn]
  clear hx hb hn hx'
  go_enter Tryd.func3, Tryd.ntmps3
  go_wp2_with fail
  refine (awake_any w).mono ?_
  rintro e w1 ⟨rfl, hb⟩
  have HB := Lib.hid hb
  have HX1 := Lib.hid (HX.out.below hb)
  clear hb
  by_cases h300 : 300 < n
  · go_wp2
    go_ret
    exact ⟨rfl, HB.out⟩
  obtain ⟨P, hP⟩ : ∃ P, putR b = P := ⟨_, rfl⟩
  obtain ⟨k, hk⟩ : ∃ k, P.length = k := ⟨_, rfl⟩
  have hle2 := putR_le 300 b (by rw [HN.out]; omega) (by decide)
  rw [hP, hk, HN.out] at hle2
  have HP := Lib.hid hP
  have HK := Lib.hid hk
  clear hP hk
  go_wp2_with fail
  refine (Put_is A c n b P k w1 HN.out HP.out HK.out HX1.out HBR.out (by omega)).mono ?_
  rintro e w2 ⟨A2, c2, rfl, hr, hb⟩
  have HB := Lib.hid (below_two HB.out hb)
  have HX2 := Lib.hid (HX1.out.below hb)
  have hcx := conv_all HK.out hr
  have HRP := Lib.hid (fun w' (hb : Below w2.heap.size w2 w') => RPut_is A c n b P k w' HN.out HP.out HK.out (HX2.out.below hb) (by omega))
  have hw2 : IntKind.i64.wrap (2 * (n : Int)) = 2 * (n : Int) := by rw [IntKind.wrap_i64]; omega
  have hd1 : decide ((k : Int) ≤ 2 * (n : Int)) = true := decide_eq_true (by omega)
  have hz : ((k : Int) == 0) = ((n : Int) == 0) := by
    by_cases h : n = 0
    · have : k = 0 := by omega
      rw [h, this]
    · have h1 : (k : Int) ≠ 0 := by omega
      have h2 : (n : Int) ≠ 0 := by omega
      rw [beq_eq_false_iff_ne.2 h1, beq_eq_false_iff_ne.2 h2]
  clear hb hr hle2
  go_wp2_with fail
  go_region_held (fun w' => Below w2.heap.size w2 w')
    (first
      | exact (Below.refl _ _).drew
      | assumption
      | exact below_two (by assumption) (by assumption))
    (first
      | (go_at_call 10; refine (HRP.out _ (by assumption)).mono ?_; rintro e w3 ⟨A3, c3, rfl, hr, hb⟩; have hcy := conv_all HK.out hr; have hrf := Below.refl w3.heap.size w3; clear hr))
  all_goals go_wp2
  all_goals go_ret
  all_goals exact ⟨rfl, below_two HB.out (by assumption)⟩
end Go.Proofs.YticebanhccgglaaDoor
