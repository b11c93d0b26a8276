
/- nostosref16: Num, Text. -/
import Derived.Test.YticebanhccgglaaDoorCatB
namespace Go.Proofs.YticebanhccgglaaDoor
open Go.RowKit

theorem RSize_any (n : Int) (w : World) (h0 : -9223372036854775808 ≤ n) (h1 : n ≤ 9223372036854775807) (m : Nat) (hm : zz n = m) :
    Calls Tryd.prog 23 #[.int .i64 n] w fun e w' => e = .returned (.int .u64 m) ∧ w = w' := by
  unfold zz at hm
  by_cases h : 0 ≤ n
  · rw [if_pos h] at hm
    go_enter Tryd.func23, Tryd.ntmps23
    go_wp2
    go_ret
    refine ⟨?_, rfl⟩
    simp
    omega
  · rw [if_neg h] at hm
    go_enter Tryd.func23, Tryd.ntmps23
    go_wp2
    go_ret
    refine ⟨?_, rfl⟩
    simp
    omega

set_option maxHeartbeats 1000000 in
set_option maxRecDepth 100000 in
theorem RNum_any (n : Int) (w : World) (h0 : -9223372036854775808 ≤ n) (h1 : n ≤ 9223372036854775807) (l : List Int) (k : Nat) (hl : grp (zz n) = l) (hk : l.length = k) :
    Calls Tryd.prog 15 #[.int .i64 n] w fun e w' => ∃ x, e = .returned x ∧ w'.ownsRow w.heap.size 5 1 x k (nums .u8 l) ∧ Below w.heap.size w w' := by
  have hzl := zz_lt h0 h1
  obtain ⟨m0, hm0⟩ : ∃ m, zz n = m := ⟨_, rfl⟩
  have HZ := Lib.hid hm0
  rw [hm0] at hl hzl
  have HK := Lib.hid hk
  have HLEN := Lib.hid (grp_len hzl)
  have HO : Hid ((w.alloc (.cells #[.int .u8 ((m0 : Int) % 128)] 5)).ownsRow w.heap.size 5 1 (.slice (some ⟨w.heap.size, 0, none⟩) 1 1) 1 (nums .u8 [(m0 : Int) % 128])) := Lib.hid (own_block (w := w.alloc (.cells #[.int .u8 ((m0 : Int) % 128)] 5)) (base := w.heap.size) (cs := nums .u8 [(m0 : Int) % 128]) (heap_alloc_new _ _) (Nat.le_refl _) (by rw [nums_length]; exact (by decide : 1 ≤ maxLen)))
  have HB := Lib.hid ((Below.refl w.heap.size w).alloc (Nat.le_refl _) (.cells #[.int .u8 ((m0 : Int) % 128)] 5))
  have HG : Hid (grpD (m0 / 128) ++ [(m0 : Int) % 128] = l) := Lib.hid (by rw [← hl]; rfl)
  rw [hl] at HLEN
  clear hl hk hm0
  go_enter Tryd.func15, Tryd.ntmps15
  go_wp2_with fail
  refine (RSize_any n w h0 h1 m0 HZ.out).mono ?_
  rintro e w' ⟨rfl, rfl⟩
  go_wp2_with fail
  go_loopw [3, 4] (fun left out wr => ∃ (m : Nat) (b : List Int), left = .int .u64 m ∧ m < 18446744073709551616 ∧ Hid (grpD m ++ b = l) ∧ Hid (wr.ownsRow w.heap.size 5 1 out b.length (nums .u8 b)) ∧ Hid (Below w.heap.size w wr)) (fun left _ _ => (intOf left).toNat)
  case atStart => exact ⟨m0 / 128, [(m0 : Int) % 128], rfl, by omega, HG, HO, HB⟩
  case round =>
    clear HO HB HG
    obtain ⟨m, b, rfl, hm2, HF, HO, HB⟩ := hrel
    by_cases hgo : 0 < m
    · have hbl : b.length ≤ 10 := by
        have h4 := congrArg List.length HF.out
        rw [List.length_append] at h4
        have := HLEN.out.2
        omega
      have HNX : Hid (grpD (m / 128) ++ (((m % 128 + 128 : Nat) : Int) :: b) = l) := Lib.hid (by
        have h2 := HF.out
        rw [grpD_pos hgo] at h2
        simpa using h2)
      obtain ⟨A, c, rfl, hr⟩ := Rd.own HO.out
      have HR := Lib.hid (hr.below (below_lit _ (.cells #[.int .u8 ((m % 128 + 128 : Nat) : Int)] 5)))
      have HS : Hid ((wr.alloc (.cells #[.int .u8 ((m % 128 + 128 : Nat) : Int)] 5)).ownsRow w.heap.size 5 1 (.slice (some ⟨wr.heap.size, 0, none⟩) 1 1) 1 (nums .u8 [((m % 128 + 128 : Nat) : Int)])) := Lib.hid (own_block (w := wr.alloc (.cells #[.int .u8 ((m % 128 + 128 : Nat) : Int)] 5)) (base := w.heap.size) (cs := nums .u8 [((m % 128 + 128 : Nat) : Int)]) (heap_alloc_new _ _) HB.out.size (by rw [nums_length]; exact (by decide : 1 ≤ maxLen)))
      have HB2 : Hid (Below w.heap.size w (wr.alloc (.cells #[.int .u8 ((m % 128 + 128 : Nat) : Int)] 5))) := Lib.hid (HB.out.alloc HB.out.size _)
      have hd : ((m : Int)) % 128 = ((m % 128 : Nat) : Int) := rfl
      have hq : ((m : Int)) / 128 = ((m / 128 : Nat) : Int) := rfl
      have hlt : m / 128 < m := Nat.div_lt_self hgo (by decide)
      have hqm : m / 128 < 18446744073709551616 := by omega
      have hd36 : m % 128 < 128 := Nat.mod_lt _ (by decide)
      generalize m % 128 = d at *
      generalize m / 128 = q at *
      have hxx : ((d : Int) + 128) = ((d + 128 : Nat) : Int) := rfl
      have hxr : d + 128 < 256 := by omega
      generalize d + 128 = x at *
      clear HF HO hr HB
      go_wp2_with (refine wp_app (w0 := w) rfl (.tmp 19) (.tmp 20) 22 5 (.int .u8 0) 1 1 rfl Tryd.underlying22 infoU8 rfl (by decide) (by decide) w.heap.size _ 1 (nums .u8 [(x : Int)]) rfl HS.out A b.length c (nums .u8 b) rfl HR.out (nums_one _ _) (by omega) HB2.out.size HB2.out ?_)
      intro v2 w2 ho hb _
      have HO3 := Lib.hid ho
      have HB3 := Lib.hid hb
      clear ho hb
      go_wp2
      go_roundw
      case rel => exact ⟨q, (x : Int) :: b, rfl, by omega, HNX, Lib.hid (by have := HO3.out; rw [Nat.add_comm] at this; exact this), HB3⟩
      case measure => simp [intOf] <;> omega
    · obtain rfl : m = 0 := by omega
      have hf := HF.out
      rw [grpD_0, List.nil_append] at hf
      subst hf
      have e9 := HK.out
      subst e9
      go_wp2
      go_ret
      exact ⟨_, rfl, HO.out, HB.out⟩

end Go.Proofs.YticebanhccgglaaDoor
