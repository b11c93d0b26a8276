/- The walks of CodecKeeps. -/
import Derived.Test.YtaegphgjdffgaaaAwake16
import Derived.Test.YtaegphgjdffgaaaPlain16c
namespace Go.Proofs.Ytaegphgjdffgaaa
open Go.RowKit

set_option maxHeartbeats 1000000 in
set_option maxRecDepth 100000 in
theorem CodecKeeps_walk (A : Option Addr) (c : Nat) (b : List Int) (most : Int) (w : World) (hx : RdI w .u8 A c b) (hb : ∀ x ∈ b, 0 ≤ x ∧ x < 256) :
    Calls Try.prog 7 #[.slice A b.length c, .int .i64 most] w fun e w' => e = .returned (.bool true) ∧ Below w.heap.size w w' := by
  have HX := Lib.hid hx
  have HBR := Lib.hid hb
  have hle := hx.le
  have hcm := hx.cap
  unfold maxLen at hcm
  clear hx hb
  go_enter Try.func7, Try.ntmps7
  go_wp2_with fail
  refine (awake_any w).mono ?_
  rintro e w1 ⟨rfl, hb⟩
  have HB := Lib.hid hb
  (replace HX := Lib.hid (Rd.below (Hid.out HX) hb))
  clear hb
  by_cases h200 : 200 < b.length
  · go_wp2
    go_ret
    exact ⟨rfl, HB.out⟩
  go_wp2_with fail
  refine (RdNum_nil 0 most w1).mono ?_
  rintro e w2 ⟨rfl, hb⟩
  have HB := Lib.hid (below_two HB.out hb)
  (replace HX := Lib.hid (Rd.below (Hid.out HX) hb))
  clear hb
  go_wp2_with fail
  refine (RdText_nil most w2).mono ?_
  rintro e w3 ⟨rfl, hb⟩
  have HB := Lib.hid (below_two HB.out hb)
  (replace HX := Lib.hid (Rd.below (Hid.out HX) hb))
  clear hb
  go_wp2_with fail
  refine (Err_nil _).mono ?_
  rintro e w' ⟨rfl, rfl⟩
  go_wp2_with fail
  refine (End_nil _).mono ?_
  rintro e w' ⟨rfl, rfl⟩
  go_wp2_with fail
  refine (New_any A c b.length b _ rfl HX.out HBR.out).mono ?_
  rintro e w4 ⟨g, rfl, hg, hr, hb⟩
  have HR := Lib.hid hr
  have hgw : w.heap.size ≤ g := by rw [hg]; exact HB.out.size
  have HB := Lib.hid (below_two HB.out hb)
  clear hb hr HX hg
  go_wp2_with fail
  go_loopw [9] (fun i wr => ∃ (k : Nat) (A' : Option Addr) (c' : Nat) (l' : List Int) (e' : Int), i = .int .i64 k ∧ k ≤ 201 ∧ l'.length ≤ 200 ∧ Hid (e' = 0 → l'.length + k ≤ 200) ∧ Hid (Rdr wr g A' c' l' e') ∧ Hid (Below w.heap.size w wr)) (fun i _ => 201 - (intOf i).toNat)
  case atStart => exact ⟨0, A, c, b, 0, rfl, by omega, by omega, Lib.hid (fun _ => by omega), HR, HB⟩
  case round =>
    clear HR HB
    obtain ⟨k, A', c', l', e', rfl, hk, hl, HE, HR, HB⟩ := hrel
    by_cases he : e' = 0
    · subst he
      have hkl := HE.out rfl
      have hk201 : k < 201 := by omega
      go_wp2_with fail
      refine (Err_any g 0 _ HR.out.st.c1).mono ?_
      rintro e w' ⟨rfl, rfl⟩
      obtain ⟨n, l2, e2, hq⟩ : ∃ n l2 e2, readS l' 0 0 most = (n, l2, e2) := ⟨_, _, _, rfl⟩
      have hlen := readS_len l' 0 0 most
      rw [hq] at hlen
      simp only at hlen
      have HQ := Lib.hid hq
      clear hq
      go_wp2_with fail
      refine (RdNum_any g A' c' l' 0 _ _ _ HR.out n l2 e2 HQ.out (by omega)).mono ?_
      rintro e w5 ⟨rfl, A2, c2, hr, ho⟩
      have HR2 := Lib.hid hr
      have HB2 := Lib.hid (HB.out.trans (ho.below hgw HB.out.size))
      have HE2 : Hid (e2 = 0 → l2.length + (k + 1) ≤ 200) := Lib.hid (fun h => by
        have hq := HQ.out
        rw [h] at hq
        have := read_less hq
        omega)
      clear hr ho
      go_wp2
      go_roundw
      case rel => exact ⟨k + 1, A2, c2, l2, e2, by go_num, by omega, by omega, HE2, HR2, HB2⟩
      case measure => simp [intOf] <;> omega
    · have hb : (e' == 0) = false := by simpa using he
      have hb2 : (e' != 0) = true := by simpa using he
      have q1 : readS l' e' (-9223372036854775808) 9223372036854775807 = (0, l', e') := by unfold readS; rw [if_pos he]
      have q2 : textS l' e' 200 = ([], l', e') := by
        have : readS l' e' 0 200 = (0, l', e') := by unfold readS; rw [if_pos he]
        unfold textS
        rw [this]
        simp only
        rw [if_pos he]
      have q3 : endS l' e' = e' := by unfold endS; rw [if_neg (by omega)]
      have Q1 := Lib.hid q1
      have Q2 := Lib.hid q2
      have Q3 := Lib.hid q3
      have HNE := Lib.hid he
      clear q1 q2 q3 he
      have k1 := HR.out.st.c1
      by_cases hk201 : k < 201
      case' pos =>
        go_wp2_with fail
        refine (Err_any g e' _ k1).mono ?_
        rintro e w' ⟨rfl, rfl⟩
      all_goals
        go_wp2_with fail
        refine (Err_any g e' _ k1).mono ?_
        rintro e w' ⟨rfl, rfl⟩
        go_wp2_with fail
        refine (RdNum_any g A' c' l' e' _ _ _ HR.out 0 l' e' Q1.out (by omega)).mono ?_
        rintro e w5 ⟨rfl, A2, c2, hr, ho⟩
        have HR2 := Lib.hid hr
        have HB2 := Lib.hid (HB.out.trans (ho.below hgw HB.out.size))
        clear hr ho
        go_wp2_with fail
        refine (RdText_any g A2 c2 l' e' 200 _ HR2.out [] l' e' Q2.out (by omega)).mono ?_
        rintro e w6 ⟨A3, c3, rfl, ht, A4, c4, hr, ho⟩
        have HR3 := Lib.hid hr
        have HB3 := Lib.hid (HB2.out.trans (ho.below hgw HB2.out.size))
        have k2 := hr.st.c1
        clear hr ho ht
        go_wp2_with fail
        refine (Err_any g e' _ k2).mono ?_
        rintro e w' ⟨rfl, rfl⟩
        go_wp2_with fail
        have hend := End_any g A4 c4 l' e' w6 HR3.out.st
        rw [Q3.out] at hend
        refine hend.mono ?_
        rintro e w' ⟨rfl, rfl⟩
        clear hend
        go_wp2
        go_ret
        exact ⟨rfl, HB3.out⟩
end Go.Proofs.Ytaegphgjdffgaaa
