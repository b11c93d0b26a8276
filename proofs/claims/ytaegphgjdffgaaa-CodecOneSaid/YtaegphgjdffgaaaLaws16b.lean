/- The walks of CodecOne. -/
import Derived.Test.YtaegphgjdffgaaaAwake16
import Derived.Test.YtaegphgjdffgaaaPlain16c
namespace Go.Proofs.Ytaegphgjdffgaaa
open Go.RowKit

theorem read_whole {b l2 : List Int} {n : Int} {e : Int} (hb : ∀ x ∈ b, 0 ≤ x ∧ x < 256) (h : readS b 0 (-9223372036854775808) 9223372036854775807 = (n, l2, e)) (he : endS l2 e = 0) : grp (zz n) = b ∧ -9223372036854775808 ≤ n ∧ n ≤ 9223372036854775807 := by
  have he0 : e = 0 ∧ l2.length = 0 := by
    unfold endS at he
    split at he
    · omega
    · omega
  obtain ⟨rfl, hl⟩ := he0
  have hle := endsL_le b
  unfold readS at h
  rw [if_neg (by decide)] at h
  by_cases her : (endsL b).2 = 0
  · have hpos := ends_some her
    rw [if_neg (by omega)] at h
    split at h
    · injection h with h1 h2
      injection h2 with h2 h3
      exact absurd h3 (by decide)
    · injection h with h1 h2
      injection h2 with h2 h3
      subst h2
      rw [List.length_drop] at hl
      have e1 : (endsL b).1 = b.length := by omega
      rw [e1, List.take_length] at h1
      subst h1
      have hv := valL_range b 0 (by decide) (by decide)
      exact ⟨only_form hb (by rw [← e1, ← her]) (by omega), unz_range _ hv.1 hv.2⟩
  · rw [if_pos her] at h
    injection h with h1 h2
    injection h2 with h2 h3
    exact absurd h3 her

set_option maxHeartbeats 800000 in
set_option maxRecDepth 100000 in
theorem CodecOne_walk (A : Option Addr) (c : Nat) (b : List Int) (w : World) (hx : RdI w .u8 A c b) (hb : ∀ x ∈ b, 0 ≤ x ∧ x < 256) :
    Calls Try.prog 6 #[.slice A b.length c] w fun e w' => e = .returned (.bool true) ∧ Below w.heap.size w w' := by
  have HX := Lib.hid hx
  have HBR := Lib.hid hb
  have hle := hx.le
  have hcm := hx.cap
  unfold maxLen at hcm
  clear hx hb
  go_enter Try.func6, Try.ntmps6
  go_wp2_with fail
  refine (awake_any w).mono ?_
  rintro e w1 ⟨rfl, hb⟩
  have HB := Lib.hid hb
  (replace HX := Lib.hid (Rd.below (Hid.out HX) hb))
  clear hb
  by_cases h200 : 200 < b.length
  · go_wp2
    go_ret
    exact ⟨rfl, HB.out⟩
  go_wp2_with fail
  refine (New_any A c b.length b _ rfl HX.out HBR.out).mono ?_
  rintro e w2 ⟨g, rfl, hg, hr, hb⟩
  (replace HX := Lib.hid (Rd.below (Hid.out HX) hb))
  have HR := Lib.hid hr
  have hgw : w.heap.size ≤ g := by rw [hg]; exact HB.out.size
  have hb1 := hb.size
  have HB1 := Lib.hid hb
  have HG := Lib.hid hg
  clear hg
  have HB := Lib.hid (below_two HB.out hb)
  clear hb hr
  obtain ⟨n, l2, e2, hq⟩ : ∃ n l2 e2, readS b 0 (-9223372036854775808) 9223372036854775807 = (n, l2, e2) := ⟨_, _, _, rfl⟩
  have HQ := Lib.hid hq
  clear hq
  go_wp2_with fail
  refine (RdNum_any g A c b 0 _ _ _ HR.out n l2 e2 HQ.out (by omega)).mono ?_
  rintro e w3 ⟨rfl, A2, c2, hr, ho⟩
  have HR2 := Lib.hid hr
  have hb3 := ho.below (B := w1.heap.size) (by have := HG.out; omega) hb1
  have HX := Lib.hid (HX.out)
  have HB := Lib.hid (HB.out.trans (ho.below hgw HB.out.size))
  have HX3 : Hid (RdI w3 .u8 A c b) := Lib.hid (by
    have h1 : Dat w2 g A c b := HR.out.d
    exact (h1.only ho).1)
  clear hr ho hb3 HX
  obtain ⟨r0, hr0⟩ : ∃ r0, endS l2 e2 = r0 := ⟨_, rfl⟩
  have HE := Lib.hid hr0
  clear hr0
  go_wp2_with fail
  have hend := End_any g A2 c2 l2 e2 w3 HR2.out.st
  rw [HE.out] at hend
  refine hend.mono ?_
  rintro e w' ⟨rfl, rfl⟩
  clear hend
  by_cases hz : r0 = 0
  · subst hz
    obtain ⟨k1, k2, k3⟩ := read_whole HBR.out HQ.out HE.out
    have HK1 := Lib.hid k1
    have hcb := conv_all (n := b.length) rfl HX3.out
    clear k1
    go_wp2_with fail
    go_region_held (fun w' => Below w3.heap.size w3 w')
      (first
        | exact (Below.refl _ _).drew
        | assumption
        | exact below_two (by assumption) (by assumption))
      (first
        | (go_at_call 9; refine (Num_is n _ b b.length HK1.out rfl k2 k3).mono ?_; rintro e w4 ⟨A4, c4, rfl, hr, hb⟩; have hcy := conv_all (n := b.length) rfl hr; have hrf := Below.refl w4.heap.size w4; clear hr))
    all_goals go_wp2
    all_goals go_ret
    all_goals exact ⟨rfl, below_two HB.out (by assumption)⟩
  · have hzb : (r0 != 0) = true := by simpa using hz
    go_wp2
    go_ret
    exact ⟨rfl, HB.out⟩

end Go.Proofs.Ytaegphgjdffgaaa
