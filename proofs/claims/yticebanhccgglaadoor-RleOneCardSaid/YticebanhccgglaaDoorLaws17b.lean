
/- The walks of RleTakes, RleOne. -/
import Derived.Test.YticebanhccgglaaDoorAwake17
import Derived.Test.YticebanhccgglaaDoorPlain17e
import Derived.Deep.RegionHeld
namespace Go.Proofs.YticebanhccgglaaDoor
open Go.RowKit

set_option maxHeartbeats 2000000 in
set_option maxRecDepth 100000 in
theorem RleTakes_walk (A : Option Addr) (c : Nat) (b : List Int) (many : Int) (w : World) (hx : RdI w .u8 A c b) (hb : ∀ x ∈ b, 0 ≤ x ∧ x < 256) :
    Calls Tryd.prog 4 #[.slice A b.length c, .int .i64 many] w fun e w' => e = .returned (.bool true) ∧ Below w.heap.size w w' := by
  obtain ⟨n, hn⟩ : ∃ n, b.length = n := ⟨_, rfl⟩
  have hx' : Rd w A n c 1 (nums .u8 b) := by rw [← hn]; exact hx
  have HX := Lib.hid hx'
  have HBR := Lib.hid hb
  have HN := Lib.hid hn
  have hle := hx'.le
  have hcm := hx'.cap
  unfold maxLen at hcm
  rw [hn]
  clear hx hb hn hx'
  go_enter Tryd.func4, Tryd.ntmps4
  go_wp2_with fail
  refine (awake_any w).mono ?_
  rintro e w1 ⟨rfl, hb⟩
  have HB := Lib.hid hb
  have HX1 := Lib.hid (HX.out.below hb)
  clear hb
  by_cases h300 : 300 < n
  · go_wp2
    go_ret
    exact ⟨rfl, HB.out⟩
  by_cases h1000 : 1000 < many
  · go_wp2
    go_ret
    exact ⟨rfl, HB.out⟩
  obtain ⟨P, er, hP⟩ : ∃ P er, takeT many b = (P, er) := ⟨_, _, rfl⟩
  obtain ⟨k, hk⟩ : ∃ k, P.length = k := ⟨_, rfl⟩
  have HP := Lib.hid hP
  have HK := Lib.hid hk
  clear hP hk
  go_wp2_with fail
  refine (Take_is A c n b many P k er w1 HN.out HP.out HK.out HX1.out HBR.out (by omega) (by omega)).mono ?_
  rintro e w2 ⟨A2, c2, rfl, hr, hb⟩
  have HB := Lib.hid (below_two HB.out hb)
  have HX2 := Lib.hid (HX1.out.below hb)
  have HR2 := Lib.hid hr
  clear hr hb
  go_wp2_with fail
  refine (RTake_is A c n b many P k er w2 HN.out HP.out HK.out HX2.out HBR.out (by omega) (by omega)).mono ?_
  rintro e w3 ⟨A3, c3, rfl, hr, hb⟩
  have HB := Lib.hid (below_two HB.out hb)
  have q1 := conv_all HK.out (HR2.out.below hb) w3 (Below.refl _ _)
  have q2 := conv_all HK.out hr w3 (Below.refl _ _)
  clear hr hb
  go_wp2
  go_ret
  exact ⟨rfl, HB.out⟩

set_option maxHeartbeats 2000000 in
set_option maxRecDepth 100000 in
theorem RleOne_walk (A : Option Addr) (c : Nat) (b : List Int) (many : Int) (w : World) (hx : RdI w .u8 A c b) (hb : ∀ x ∈ b, 0 ≤ x ∧ x < 256) (hm0 : 0 ≤ many) (hm1 : many < 256) :
    Calls Tryd.prog 6 #[.slice A b.length c, .int .u8 many] w fun e w' => e = .returned (.bool true) ∧ Below w.heap.size w w' := by
  obtain ⟨n, hn⟩ : ∃ n, b.length = n := ⟨_, rfl⟩
  have hx' : Rd w A n c 1 (nums .u8 b) := by rw [← hn]; exact hx
  have HX := Lib.hid hx'
  have HBR := Lib.hid hb
  have HN := Lib.hid hn
  have hle := hx'.le
  have hcm := hx'.cap
  unfold maxLen at hcm
  rw [hn]
  have hwm : IntKind.i64.wrap many = many := by rw [IntKind.wrap_i64]; omega
  clear hx hb hn hx'
  go_enter Tryd.func6, Tryd.ntmps6
  go_wp2_with fail
  refine (awake_any w).mono ?_
  rintro e w1 ⟨rfl, hb⟩
  have HB := Lib.hid hb
  have HX1 := Lib.hid (HX.out.below hb)
  clear hb
  by_cases h300 : 300 < n
  · go_wp2
    go_ret
    exact ⟨rfl, HB.out⟩
  obtain ⟨P, er, hP⟩ : ∃ P er, takeT many b = (P, er) := ⟨_, _, rfl⟩
  obtain ⟨k, hk⟩ : ∃ k, P.length = k := ⟨_, rfl⟩
  have HP := Lib.hid hP
  have HK := Lib.hid hk
  clear hP hk
  go_wp2_with fail
  refine (Take_is A c n b many P k er w1 HN.out HP.out HK.out HX1.out HBR.out (by omega) (by omega)).mono ?_
  rintro e w2 ⟨A2, c2, rfl, hr, hb⟩
  have HB := Lib.hid (below_two HB.out hb)
  have HX2 := Lib.hid (HX1.out.below hb)
  have HR2 := Lib.hid hr
  clear hr hb
  by_cases he : er = 0
  · subst he
    obtain ⟨h1, h2⟩ := takeT_form HBR.out HP.out
    have hkm : (k : Int) = many := by rw [← HK.out]; exact h2
    have HPUT := Lib.hid h1
    have hPr : ∀ z ∈ P, 0 ≤ z ∧ z < 256 := by
      have h3 := take_range HBR.out HP.out
      exact h3
    have HPR := Lib.hid hPr
    clear h1 h2 hPr
    have hk255 : k ≤ 255 := by omega
    have HRP := Lib.hid (fun w' (hb : Below w2.heap.size w2 w') => Put_is A2 c2 k P b n w' HK.out HPUT.out HN.out (HR2.out.below hb) HPR.out (by omega))
    have hcx := conv_all HN.out HX2.out
    have hkb : ((k : Int) == many) = true := by simpa using hkm
    clear hkm
    go_wp2_with fail
    go_region_held (fun w' => Below w2.heap.size w2 w')
      (first
        | exact (Below.refl _ _).drew
        | assumption
        | exact below_two (by assumption) (by assumption))
      (first
        | (go_at_call 9; refine (HRP.out _ (by assumption)).mono ?_; rintro e w3 ⟨A3, c3, rfl, hr, hb⟩; have hcy := conv_all HN.out hr; have hrf := Below.refl w3.heap.size w3; clear hr))
    all_goals go_wp2
    all_goals go_ret
    all_goals exact ⟨rfl, below_two HB.out (by assumption)⟩
  · have hz : k = 0 := by
      rw [← HK.out, takeT_none HP.out he]
      rfl
    subst hz
    go_wp2
    go_ret
    exact ⟨rfl, HB.out⟩
end Go.Proofs.YticebanhccgglaaDoor
