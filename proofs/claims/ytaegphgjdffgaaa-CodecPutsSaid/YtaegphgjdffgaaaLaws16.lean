/- The walks of the laws of layer 16. -/
import Derived.Test.YtaegphgjdffgaaaAwake16
import Derived.Test.YtaegphgjdffgaaaPlain16c
namespace Go.Proofs.Ytaegphgjdffgaaa
open Go.RowKit

set_option maxHeartbeats 4000000 in
set_option maxRecDepth 100000 in
theorem CodecPuts_walk (n : Int) (A : Option Addr) (c : Nat) (b : List Int) (w : World) (h0 : -9223372036854775808 ≤ n) (h1 : n ≤ 9223372036854775807) (hx : RdI w .u8 A c b) :
    Calls Try.prog 3 #[.int .i64 n, .slice A b.length c] w fun e w' => e = .returned (.bool true) ∧ Below w.heap.size w w' := by
  have HX := Lib.hid hx
  have hle := hx.le
  have hcm := hx.cap
  unfold maxLen at hcm
  clear hx
  obtain ⟨l, hl⟩ : ∃ l, grp (zz n) = l := ⟨_, rfl⟩
  have hlen := grp_len (zz_lt h0 h1)
  rw [hl] at hlen
  have HL := Lib.hid hl
  clear hl
  obtain ⟨k, hk⟩ : ∃ k, l.length = k := ⟨_, rfl⟩
  rw [hk] at hlen
  have HK := Lib.hid hk
  clear hk
  go_enter Try.func3, Try.ntmps3
  go_wp2_with fail
  refine (awake_any w).mono ?_
  rintro e w1 ⟨rfl, hb⟩
  have HB := Lib.hid hb
  (replace HX := Lib.hid (Rd.below (Hid.out HX) hb))
  clear hb
  by_cases h200 : 200 < b.length
  · go_wp2
    go_ret
    exact ⟨rfl, HB.out⟩
  go_wp2_with fail
  refine (Num_any n _ h0 h1 l k HL.out HK.out).mono ?_
  rintro e w2 ⟨x, rfl, ho, hb⟩
  obtain ⟨A1, c1, rfl, hr⟩ := own_rd ho
  have hcx := conv_all HK.out hr
  have HB := Lib.hid (below_two HB.out hb)
  (replace HX := Lib.hid (Rd.below (Hid.out HX) hb))
  clear hb ho hr
  obtain ⟨t, ht⟩ : ∃ t, grp (zz b.length) ++ b = t := ⟨_, rfl⟩
  obtain ⟨m, hm⟩ : ∃ m, t.length = m := ⟨_, rfl⟩
  have HT : Hid (∀ w', Below w2.heap.size w2 w' → Calls Try.prog 11 #[.slice A b.length c] w' fun e w'' => ∃ x, e = .returned x ∧ w''.ownsRow w'.heap.size 5 1 x m (nums .u8 t) ∧ Below w'.heap.size w' w'') := Lib.hid (fun w' hb => by
    have := Text_any A c b w' (HX.out.below hb) (by omega)
    rw [ht, hm] at this
    exact this)
  have HRT : Hid (∀ w', Below w2.heap.size w2 w' → Calls Try.prog 12 #[.slice A b.length c] w' fun e w'' => ∃ x, e = .returned x ∧ w''.ownsRow w'.heap.size 5 1 x m (nums .u8 t) ∧ Below w'.heap.size w' w'') := Lib.hid (fun w' hb => by
    have := RText_any A c b w' (HX.out.below hb) (by omega)
    rw [ht, hm] at this
    exact this)
  have HM := Lib.hid hm
  have hd1 : decide ((1 : Int) ≤ (k : Int)) = true := decide_eq_true (by omega)
  have hd2 : decide ((k : Int) ≤ 10) = true := decide_eq_true (by omega)
  clear ht hm
  go_wp2_with fail
  go_region_held (fun w' => Below w2.heap.size w2 w')
    (first
      | exact (Below.refl _ _).drew
      | assumption
      | exact below_two (by assumption) (by assumption))
    (first
      | (go_at_call 10; refine (RNum_any n _ h0 h1 l k HL.out HK.out).mono ?_; rintro e w3 ⟨x, rfl, ho, hb⟩; obtain ⟨A2, c2, rfl, hr⟩ := own_rd ho; have hcy := conv_all HK.out hr; have hrf := Below.refl w3.heap.size w3; clear ho hr)
      | (go_at_call 11; refine (HT.out _ (by assumption)).mono ?_; rintro e w3 ⟨x, rfl, ho, hb⟩; obtain ⟨A2, c2, rfl, hr⟩ := own_rd ho; have hcy := conv_all HM.out hr; have hrf := Below.refl w3.heap.size w3; clear ho hr)
      | (go_at_call 12; refine (HRT.out _ (by assumption)).mono ?_; rintro e w3 ⟨x, rfl, ho, hb⟩; obtain ⟨A2, c2, rfl, hr⟩ := own_rd ho; have hcy := conv_all HM.out hr; have hrf := Below.refl w3.heap.size w3; clear ho hr))
  all_goals go_wp2
  all_goals go_ret
  all_goals exact ⟨rfl, below_two HB.out (by assumption)⟩
end Go.Proofs.Ytaegphgjdffgaaa
