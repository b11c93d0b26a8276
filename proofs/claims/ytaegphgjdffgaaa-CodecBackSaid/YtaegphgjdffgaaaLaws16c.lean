/- The walk of CodecBack. -/
import Derived.Test.YtaegphgjdffgaaaAwake16
import Derived.Test.YtaegphgjdffgaaaPlain16c
namespace Go.Proofs.Ytaegphgjdffgaaa
open Go.RowKit

theorem nums_app (a b : List Int) : nums .u8 a ++ nums .u8 b = nums .u8 (a ++ b) := by simp [nums]
set_option maxHeartbeats 1000000 in
set_option maxRecDepth 100000 in
theorem CodecBack_walk (n : Int) (A : Option Addr) (c : Nat) (b : List Int) (A' : Option Addr) (c' : Nat) (more : List Int) (w : World) (h0 : -9223372036854775808 ≤ n) (h1 : n ≤ 9223372036854775807) (hx : RdI w .u8 A c b) (hb : ∀ x ∈ b, 0 ≤ x ∧ x < 256) (hy : RdI w .u8 A' c' more) (hm : ∀ x ∈ more, 0 ≤ x ∧ x < 256) :
    Calls Try.prog 5 #[.int .i64 n, .slice A b.length c, .slice A' more.length c'] w fun e w' => e = .returned (.bool true) ∧ Below w.heap.size w w' := by
  have HX := Lib.hid hx
  have HY := Lib.hid hy
  have HBR := Lib.hid hb
  have HMR := Lib.hid hm
  have hle := hx.le
  have hcm := hx.cap
  have hle' := hy.le
  have hcm' := hy.cap
  unfold maxLen at hcm hcm'
  clear hx hb hy hm
  go_enter Try.func5, Try.ntmps5
  go_wp2_with fail
  refine (awake_any w).mono ?_
  rintro e w1 ⟨rfl, hb⟩
  have HB := Lib.hid hb
  (replace HX := Lib.hid (Rd.below (Hid.out HX) hb); replace HY := Lib.hid (Rd.below (Hid.out HY) hb))
  clear hb
  by_cases h200 : 200 < b.length
  · go_wp2
    go_ret
    exact ⟨rfl, HB.out⟩
  by_cases h201 : 200 < more.length
  · go_wp2
    go_ret
    exact ⟨rfl, HB.out⟩
  obtain ⟨l, hl⟩ : ∃ l, grp (zz n) = l := ⟨_, rfl⟩
  have hlen := grp_len (zz_lt h0 h1)
  rw [hl] at hlen
  obtain ⟨k0, hk0⟩ : ∃ k0, l.length = k0 + 1 := ⟨l.length - 1, by omega⟩
  have HL := Lib.hid hl
  have HK := Lib.hid hk0
  have hk10 : k0 < 10 := by omega
  clear hl hk0 hlen
  go_wp2_with fail
  refine (Num_is n _ l (k0 + 1) HL.out HK.out h0 h1).mono ?_
  rintro e w2 ⟨A1, c1, rfl, hr, hb⟩
  have HN := Lib.hid hr
  have hlen1 := hr.le
  have HB := Lib.hid (below_two HB.out hb)
  (replace HX := Lib.hid (Rd.below (Hid.out HX) hb); replace HY := Lib.hid (Rd.below (Hid.out HY) hb))
  clear hb hr
  have HO : Hid ((w2.alloc (.cells #[] 5)).ownsRow w2.heap.size 5 1 (.slice (some ⟨w2.heap.size, 0, none⟩) 0 0) 0 []) := Lib.hid (own_empty (heap_alloc_new _ _) (Nat.le_refl _))
  have HB2 := Lib.hid (below_lit w2 (.cells #[] 5))
  have HNa := Lib.hid (HN.out.below HB2.out)
  go_wp2_with (refine wp_app (w0 := w2) rfl (.tmp 27) (.tmp 28) 22 5 (.int .u8 0) 1 1 rfl Try.underlying22 infoU8 rfl (by decide) (by decide) w2.heap.size _ 0 [] rfl HO.out A1 (k0 + 1) c1 (nums .u8 l) rfl HNa.out (nums_one _ _) (by omega) HB2.out.size HB2.out ?_)
  intro v1 w3 ho hb _
  have HO := Lib.hid ho
  have HB2 := Lib.hid hb
  have HX3 := Lib.hid (HX.out.below hb)
  have HY3 := Lib.hid (HY.out.below hb)
  clear ho hb HNa
  obtain ⟨t, ht⟩ : ∃ t, grp (zz b.length) ++ b = t := ⟨_, rfl⟩
  obtain ⟨m, hm⟩ : ∃ m, t.length = m := ⟨_, rfl⟩
  have hml : m ≤ 210 := by
    have := grp_len (zz_lt (n := b.length) (by omega) (by omega))
    rw [← hm, ← ht, List.length_append]
    omega
  have HT := Lib.hid ht
  have HM := Lib.hid hm
  clear ht hm
  go_wp2_with fail
  refine (Text_is A c b.length b w3 t m rfl HT.out HM.out HX3.out (by omega)).mono ?_
  rintro e w4 ⟨A3, c3, rfl, hr, hb⟩
  have HR3 := Lib.hid hr
  have HO := Lib.hid (own_below HO.out hb)
  have HB2 := Lib.hid (below_two HB2.out hb)
  have HY4 := Lib.hid (HY3.out.below hb)
  clear hr hb HX3 HY3
  go_wp2_with (refine wp_app (w0 := w2) rfl (.tmp 29) (.tmp 31) 22 5 (.int .u8 0) 1 1 rfl Try.underlying22 infoU8 rfl (by decide) (by decide) w2.heap.size _ (k0 + 1) (nums .u8 l) rfl HO.out A3 m c3 (nums .u8 t) rfl HR3.out (nums_one _ _) (by omega) HB2.out.size HB2.out ?_)
  intro v2 w5 ho hb _
  have HO := Lib.hid ho
  have HB2 := Lib.hid hb
  have HY5 := Lib.hid (HY.out.below hb)
  clear ho hb HR3 HY4
  go_wp2_with (refine wp_app (w0 := w2) rfl (.tmp 32) (.tmp 33) 22 5 (.int .u8 0) 1 1 rfl Try.underlying22 infoU8 rfl (by decide) (by decide) w2.heap.size _ (k0 + 1 + m) (nums .u8 l ++ nums .u8 t) rfl HO.out A' more.length c' (nums .u8 more) rfl HY5.out (nums_one _ _) (by omega) HB2.out.size HB2.out ?_)
  intro v3 w6 ho hb _
  have HB2 := Lib.hid hb
  (replace HX := Lib.hid (Rd.below (Hid.out HX) hb); replace HY := Lib.hid (Rd.below (Hid.out HY) hb); replace HN := Lib.hid (Rd.below (Hid.out HN) hb))
  have HB := Lib.hid (below_two HB.out hb)
  rw [nums_app, nums_app] at ho
  obtain ⟨A6, c6, rfl, hr⟩ := own_rd ho
  have HR := Lib.hid hr
  clear ho hb HY5 HO hr
  have hK : (l ++ (t ++ more)).length = k0 + 1 + m + more.length := by rw [List.length_append, List.length_append, HK.out, HM.out]; omega
  have HKK := Lib.hid hK
  have HRNG : Hid (∀ x ∈ l ++ (t ++ more), 0 ≤ x ∧ x < 256) := Lib.hid (by
    intro x hx
    rcases List.mem_append.1 hx with hx | hx
    · rw [← HL.out] at hx
      exact grp_range _ x hx
    · rcases List.mem_append.1 hx with hx | hx
      · rw [← HT.out] at hx
        rcases List.mem_append.1 hx with hx | hx
        · exact grp_range _ x hx
        · exact HBR.out x hx
      · exact HMR.out x hx)
  have Q1 : Hid (readS (l ++ (t ++ more)) 0 n n = (n, t ++ more, 0)) := Lib.hid (by
    rw [← HL.out]
    exact read_grp h0 h1 (by omega) (by omega) _)
  have Q2 : Hid (textS (t ++ more) 0 b.length = (b, more, 0)) := Lib.hid (by
    rw [← HT.out, List.append_assoc]
    exact text_grp b more (by omega))
  have Q3 : Hid ((readS (l.take k0) 0 n n).1 = 0 ∧ (readS (l.take k0) 0 n n).2.2 = 3) := Lib.hid (by
    have := read_cut (lo := n) (hi := n) h0 h1
    rw [HL.out, HK.out, Nat.add_sub_cancel] at this
    exact this)
  clear hK
  go_wp2_with fail
  refine (New_any A6 c6 _ (l ++ (t ++ more)) _ HKK.out HR.out HRNG.out).mono ?_
  rintro e w7 ⟨g, rfl, hg, hr, hb⟩
  have hgw : w.heap.size ≤ g := by rw [hg]; exact HB.out.size
  have hb1 := hb.size
  have HRD := Lib.hid hr
  have HB6 := Lib.hid hb
  have HG := Lib.hid (show w6.heap.size ≤ g by omega)
  clear hb hr HR hg
  go_wp2_with fail
  refine (RdNum_any g A6 c6 _ 0 n n _ HRD.out n (t ++ more) 0 Q1.out (by rw [HKK.out]; omega)).mono ?_
  rintro e w8 ⟨rfl, A8, c8, hr, ho⟩
  have hsz := ho.size
  have HB6 := Lib.hid (HB6.out.trans (ho.below (B := w6.heap.size) HG.out hb1))
  have HRD := Lib.hid hr
  clear hr ho
  go_wp2_with fail
  refine (RdText_any g A8 c8 _ 0 b.length _ HRD.out b more 0 Q2.out (by rw [List.length_append, HM.out]; omega)).mono ?_
  rintro e w9 ⟨A9, c9, rfl, ht, A9', c9', hr, ho⟩
  have HB6 := Lib.hid (HB6.out.trans (ho.below (B := w6.heap.size) HG.out (by omega)))
  have HRD := Lib.hid hr
  have HTX := Lib.hid ht
  have HX := Lib.hid (HX.out.below HB6.out)
  have HY := Lib.hid (HY.out.below HB6.out)
  have HN := Lib.hid (HN.out.below HB6.out)
  have HB := Lib.hid (below_two HB.out HB6.out)
  clear hr ho ht HB6 hsz hb1
  have hs := fun w => sl_h A1 (k0 + 1) c1 k0 w (by omega)
  have hcut : Rd w9 A1 k0 c1 1 (nums .u8 (l.take k0)) := by
    have := RdI.cut (xs := l) (by rw [RdI, HK.out]; exact HN.out) 0 k0 c1 (by rw [HK.out]; omega) (by omega) (Nat.le_refl _)
    have hz : cutA A1 0 c1 = A1 := by unfold cutA; split <;> simp [Addr.add]
    have hl : ((l.drop 0).take k0).length = k0 := by rw [List.drop_zero, List.length_take, HK.out]; omega
    rw [hz, RdI, hl, List.drop_zero] at this
    exact this
  have hlk : (l.take k0).length = k0 := by rw [List.length_take, HK.out]; omega
  have HLK := Lib.hid hlk
  have HCUT := Lib.hid hcut
  have HRG2 : Hid (∀ x ∈ l.take k0, 0 ≤ x ∧ x < 256) := Lib.hid (fun x hx => HRNG.out x (by simp [List.mem_of_mem_take hx]))
  clear hcut hlk
  go_wp2_with fail
  refine (New_any A1 c1 k0 (l.take k0) _ HLK.out HCUT.out HRG2.out).mono ?_
  rintro e w10 ⟨g2, rfl, hg2, hr, hb⟩
  have hb1 := hb.size
  have HRS := Lib.hid hr
  have HB9 := Lib.hid hb
  have HG2 := Lib.hid (show w9.heap.size ≤ g2 by omega)
  clear hb hr hg2
  obtain ⟨l2, hq⟩ : ∃ l2, readS (l.take k0) 0 n n = (0, l2, 3) := by
    obtain ⟨z1, z2⟩ := Q3.out
    generalize readS (l.take k0) 0 n n = z at z1 z2
    obtain ⟨a1, a2, a3⟩ := z
    simp only at z1 z2
    exact ⟨a2, by rw [z1, z2]⟩
  have HQ := Lib.hid hq
  clear hq
  go_wp2_with fail
  refine (RdNum_any g2 A1 c1 _ 0 n n _ HRS.out 0 l2 3 HQ.out (by rw [HLK.out]; omega)).mono ?_
  rintro e w11 ⟨rfl, A11, c11, hr, ho⟩
  have HB9 := Lib.hid (HB9.out.trans (ho.below (B := w9.heap.size) HG2.out hb1))
  have HB := Lib.hid (below_two HB.out HB9.out)
  have k1 := hr.st.c1
  have HRD := Lib.hid (HRD.out.below HB9.out)
  have j1 := HRD.out.st.c1
  have hct := conv_all (n := b.length) rfl (HTX.out.below HB9.out) w11 (Below.refl _ _)
  have hcb := conv_all (n := b.length) rfl (HX.out.below HB9.out) w11 (Below.refl _ _)
  clear hr ho hb1 hs
  go_wp2_with fail
  refine (Err_any g 0 _ j1).mono ?_
  rintro e w' ⟨rfl, rfl⟩
  go_wp2_with fail
  have hend := End_any g A9' c9' more 0 w11 HRD.out.st
  by_cases hmz : more.length = 0
  · have he : endS more 0 = 0 := by unfold endS; rw [if_neg (by omega)]
    have hmb : ((more.length : Int) == 0) = true := by rw [beq_iff_eq]; omega
    rw [he] at hend
    refine hend.mono ?_
    rintro e w' ⟨rfl, rfl⟩
    clear hend he hmz
    go_wp2_with fail
    refine (Err_any g2 3 _ k1).mono ?_
    rintro e w' ⟨rfl, rfl⟩
    go_wp2
    go_ret
    exact ⟨rfl, HB.out⟩
  · have he : endS more 0 = 2 := by unfold endS; rw [if_pos ⟨rfl, by omega⟩]
    have hmb : ((more.length : Int) == 0) = false := by rw [beq_eq_false_iff_ne]; omega
    rw [he] at hend
    refine hend.mono ?_
    rintro e w' ⟨rfl, rfl⟩
    clear hend he hmz
    go_wp2_with fail
    refine (Err_any g2 3 _ k1).mono ?_
    rintro e w' ⟨rfl, rfl⟩
    go_wp2
    go_ret
    exact ⟨rfl, HB.out⟩
end Go.Proofs.Ytaegphgjdffgaaa
