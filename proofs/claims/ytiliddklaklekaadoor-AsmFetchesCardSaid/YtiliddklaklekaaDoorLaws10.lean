
/- The walks of the laws of nostoslaw10: AsmUp, AsmFetches. -/
import Derived.Test.YtiliddklaklekaaDoorAwake10
namespace Go.Proofs.YtiliddklaklekaaDoor
open Go.RowKit

set_option maxHeartbeats 1000000 in
theorem AsmUp_walk (i : Int) (w : World) (h0 : -9223372036854775808 ≤ i) (h1 : i ≤ 9223372036854775807) (ht : Tab w) :
    Calls Tryd.prog 5 #[.int .i64 i] w fun e w' => e = .returned (.bool true) ∧ Below w.heap.size w w' := by
  obtain ⟨u, hu⟩ : ∃ u, upR i = u := ⟨_, rfl⟩
  have h2 : upR u = u := by rw [← hu]; unfold upR wrap64; omega
  have h3 : 0 ≤ wrap64 (u - i) ∧ wrap64 (u - i) < 8 := by rw [← hu]; unfold upR wrap64; omega
  have h4 : u.tmod 8 = 0 := by
    have : u % 8 = 0 := by rw [← hu]; unfold upR wrap64; omega
    exact Int.tmod_eq_zero_of_dvd (Int.dvd_of_emod_eq_zero this)
  obtain ⟨d, hd⟩ : ∃ d, wrap64 (u - i) = d := ⟨_, rfl⟩
  rw [hd] at h3
  have H := Lib.hid (And.intro hu h2)
  clear hu h2
  go_enter Tryd.func5, Tryd.ntmps5
  go_wp2_with fail
  refine (awake_any w ht).mono ?_
  rintro e w1 ⟨rfl, hb⟩
  go_wp2_with fail
  refine (Up_any i u w1 H.out.1).mono ?_
  rintro e w2 ⟨rfl, rfl⟩
  go_wp2_with (first
    | (go_at_call 20; refine (RUp_any i u _ H.out.1 h0 h1).mono ?_; rintro e w2 ⟨rfl, rfl⟩)
    | (go_at_call 19; refine (Up_any u u _ H.out.2).mono ?_; rintro e w2 ⟨rfl, rfl⟩))
  go_ret
  exact ⟨rfl, hb⟩

set_option maxHeartbeats 1000000 in
theorem AsmFetches_walk (A : Option Addr) (c : Nat) (i : Int) (l : List Int) (w : World) (hx : RdI w .u8 A c l) (hb : isB l) (ht : Tab w) :
    Calls Tryd.prog 4 #[.slice A l.length c, .int .i64 i] w fun e w' => e = .returned (.bool true) ∧ Below w.heap.size w w' := by
  have HX := Lib.hid hx
  have HB := Lib.hid hb
  have HT := Lib.hid ht
  clear hx hb ht
  go_enter Tryd.func4, Tryd.ntmps4
  go_wp2_with fail
  refine (awake_any w HT.out).mono ?_
  rintro e w1 ⟨rfl, hb1⟩
  have HB1 := Lib.hid hb1
  clear hb1
  by_cases hl : 600 < l.length
  · go_wp2
    go_ret
    exact ⟨rfl, HB1.out⟩
  · obtain ⟨f, hf⟩ : ∃ f, fetR l i = f := ⟨_, rfl⟩
    have HF := Lib.hid hf
    clear hf
    go_wp2_with fail
    refine (Fetch_any A c _ l i f w1 rfl HF.out (HX.out.below HB1.out) HB.out (by omega) (HT.out.below HB1.out)).mono ?_
    rintro e w2 ⟨rfl, hb2⟩
    have HB2 := Lib.hid (below_two HB1.out hb2)
    clear hb2
    obtain ⟨f1, f2, f3, f4⟩ := f
    have ef : fetV (f1, f2, f3, f4) = .tuple #[.int .i64 f1, .int .i64 f2, .int .i64 f3, .int .i64 f4] := rfl
    rw [ef]
    clear ef
    go_wp2_with fail
    refine (RFetch_any A c _ l i (f1, f2, f3, f4) w2 rfl HF.out (HX.out.below HB2.out) HB.out (by omega)).mono ?_
    rintro e w3 ⟨rfl, hb3⟩
    have HB3 := Lib.hid (below_two HB2.out hb3)
    clear hb3
    have ef : (Value.agg (fetL (f1, f2, f3, f4)).toArray) = .agg #[.int .i64 f1, .int .i64 f2, .int .i64 f3, .int .i64 f4] := rfl
    rw [ef]
    clear ef
    have HB4 := Lib.hid (below_two HB3.out (below_lit w3 (.cells #[.int .i64 f1, .int .i64 f2, .int .i64 f3, .int .i64 f4] 41)))
    go_wp2
    go_ret
    exact ⟨rfl, HB4.out⟩
end Go.Proofs.YtiliddklaklekaaDoor
