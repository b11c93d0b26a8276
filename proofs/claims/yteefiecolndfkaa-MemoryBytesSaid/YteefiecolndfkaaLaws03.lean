/- The walks of the laws of nostoslaw03. -/
import Derived.Test.YteefiecolndfkaaAwake03
import Derived.Test.YteefiecolndfkaaPlain03b
namespace Go.Proofs.Yteefiecolndfkaa
open Go.RowKit

set_option maxHeartbeats 1000000 in
theorem MemoryReads_walk (A : Option Addr) (c : Nat) (i m : Int) (l : List Int) (w : World) (hx : RdI w .u8 A c l) (hb : isB l) (hm : m ≤ 9223372036854775807) :
    Calls Try.prog 4 #[.slice A l.length c, .int .i64 i, .int .i64 m] w fun e w' => e = .returned (.bool true) ∧ Below w.heap.size w w' := by
  have HX := Lib.hid hx
  have HB := Lib.hid hb
  clear hx hb
  go_enter Try.func4, Try.ntmps4
  go_wp2_with fail
  refine (awake_any w).mono ?_
  rintro e w1 ⟨rfl, hbel⟩
  have HX1 := Lib.hid (HX.out.below hbel)
  have HBL := Lib.hid hbel
  clear hbel
  by_cases h200 : 200 < l.length
  · go_wp2
    go_ret
    exact ⟨rfl, HBL.out⟩
  · go_wp2_with (first
      | (go_at_call 9; refine (Cell_any A c i l _ HX1.out HB.out).mono ?_; rintro e w' ⟨rfl, rfl⟩)
      | (go_at_call 11; refine (RefCell_any A c i l _ HX1.out HB.out).mono ?_; rintro e w' ⟨rfl, rfl⟩)
      | (go_at_call 12; refine (Byte_any A c i l _ HX1.out HB.out).mono ?_; rintro e w' ⟨rfl, rfl⟩)
      | (go_at_call 13; refine (RefByte_any A c i l _ HX1.out HB.out).mono ?_; rintro e w' ⟨rfl, rfl⟩)
      | (go_at_call 14; refine (Bytes_any A c i m l _ HX1.out hm).mono ?_; rintro e w' ⟨A1, c1, rfl, hr1, rfl⟩; have hs1 := conv_rd (P := Try.prog) Try.underlying22 Try.underlying5 Try.underlying9 hr1; clear hr1)
      | (go_at_call 15; refine (RefBytes_any A c i m l _ HX1.out hm).mono ?_; rintro e w' ⟨A2, c2, rfl, hr2, rfl⟩; have hs2 := conv_rd (P := Try.prog) Try.underlying22 Try.underlying5 Try.underlying9 hr2; clear hr2))
    go_ret
    exact ⟨rfl, HBL.out⟩

set_option maxHeartbeats 1000000 in
theorem MemoryWrites_walk (A : Option Addr) (c : Nat) (i v : Int) (l : List Int) (w : World) (hx : RdI w .u8 A c l) (hb : isB l) :
    Calls Try.prog 6 #[.slice A l.length c, .int .i64 i, .int .i64 v] w fun e w' => e = .returned (.bool true) ∧ Below w.heap.size w w' := by
  have HX := Lib.hid hx
  have HB := Lib.hid hb
  clear hx hb
  go_enter Try.func6, Try.ntmps6
  go_wp2_with fail
  refine (awake_any w).mono ?_
  rintro e w1 ⟨rfl, hbel⟩
  have HX1 := Lib.hid (HX.out.below hbel)
  have HBL := Lib.hid hbel
  clear hbel HX
  by_cases h200 : 200 < l.length
  · go_wp2
    go_ret
    exact ⟨rfl, HBL.out⟩
  · have hs0 := conv_rd (P := Try.prog) Try.underlying22 Try.underlying5 Try.underlying9 HX1.out
    go_wp2_with fail
    refine (SetCell_is A c i v l w1 _ _ _ rfl rfl rfl HX1.out (by omega)).mono ?_
    rintro e w2 ⟨A1, c1, rfl, hr1, hbel⟩
    have HX2 := Lib.hid (HX1.out.below hbel)
    have HB2 := Lib.hid (below_two HBL.out hbel)
    have R1 := Lib.hid hr1
    clear hs0 HX1 HBL hbel hr1
    go_wp2_with fail
    refine (RefSetCell_is A c i v l w2 HX2.out HB.out (by omega)).mono ?_
    rintro e w3 ⟨A2, c2, rfl, hr2, hbel⟩
    have HX3 := Lib.hid (HX2.out.below hbel)
    have HB3 := Lib.hid (below_two HB2.out hbel)
    have R1 := Lib.hid (R1.out.below hbel)
    have R2 := Lib.hid hr2
    clear HX2 HB2 hbel hr2
    go_wp2_with fail
    refine (SetByte_is A c i v l w3 _ _ _ rfl rfl rfl HX3.out (by omega)).mono ?_
    rintro e w4 ⟨A3, c3, rfl, hr3, hbel⟩
    have HX4 := Lib.hid (HX3.out.below hbel)
    have HB4 := Lib.hid (below_two HB3.out hbel)
    have R1 := Lib.hid (R1.out.below hbel)
    have R2 := Lib.hid (R2.out.below hbel)
    have R3 := Lib.hid hr3
    clear HX3 HB3 hbel hr3
    go_wp2_with fail
    refine (RefSetByte_is A c i v l w4 HX4.out (by omega)).mono ?_
    rintro e w5 ⟨A4, c4, rfl, hr4, hbel⟩
    have hs0 := conv_rd (P := Try.prog) Try.underlying22 Try.underlying5 Try.underlying9 (HX4.out.below hbel)
    have hs1 := conv_rd (P := Try.prog) Try.underlying22 Try.underlying5 Try.underlying9 (R1.out.below hbel)
    have hs2 := conv_rd (P := Try.prog) Try.underlying22 Try.underlying5 Try.underlying9 (R2.out.below hbel)
    have hs3 := conv_rd (P := Try.prog) Try.underlying22 Try.underlying5 Try.underlying9 (R3.out.below hbel)
    have hs4 := conv_rd (P := Try.prog) Try.underlying22 Try.underlying5 Try.underlying9 hr4
    have HB5 := Lib.hid (below_two HB4.out hbel)
    clear R1 R2 R3 hr4 hbel HX4 HB4
    go_wp2
    go_ret
    exact ⟨rfl, HB5.out⟩

set_option maxHeartbeats 1000000 in
theorem MemoryBack_walk (A : Option Addr) (c : Nat) (i v : Int) (l : List Int) (w : World) (hx : RdI w .u8 A c l) (hb : isB l) (h0 : -9223372036854775808 ≤ v) (h1 : v ≤ 9223372036854775807) :
    Calls Try.prog 3 #[.slice A l.length c, .int .i64 i, .int .i64 v] w fun e w' => e = .returned (.bool true) ∧ Below w.heap.size w w' := by
  have HX := Lib.hid hx
  have HB := Lib.hid hb
  clear hx hb
  go_enter Try.func3, Try.ntmps3
  go_wp2_with fail
  refine (awake_any w).mono ?_
  rintro e w1 ⟨rfl, hbel⟩
  have HX1 := Lib.hid (HX.out.below hbel)
  have HBL := Lib.hid hbel
  clear hbel HX
  by_cases h200 : 200 < l.length
  · go_wp2
    go_ret
    exact ⟨rfl, HBL.out⟩
  · by_cases he : cellE l.length i = 0
    · have HE := Lib.hid he
      clear he
      go_wp2_with fail
      refine (Cell_is A c i l w1 _ _ 0 rfl rfl HE.out HX1.out HB.out).mono ?_
      rintro e w' ⟨rfl, rfl⟩
      go_wp2_with fail
      refine (SetCell_is A c i v l w1 _ _ 0 rfl rfl HE.out HX1.out (by omega)).mono ?_
      rintro e w2 ⟨A1, c1, rfl, hr1, hbel⟩
      have R1 := Lib.hid hr1
      have HX2 := Lib.hid (HX1.out.below hbel)
      have HB2 := Lib.hid (below_two HBL.out hbel)
      clear hr1 hbel
      go_wp2_with fail
      refine (Cell_is A1 c1 i (setC l i v) w2 _ v 0 rfl (cellR_setC HE.out h0 h1) (by rw [setC_length HE.out]; exact HE.out) R1.out (isB_setC HB.out i v)).mono ?_
      rintro e w' ⟨rfl, rfl⟩
      go_wp2_with fail
      refine (SetCell_is A1 c1 i (cellR l i) (setC l i v) w2 _ l 0 rfl (setC_back HB.out HE.out) (by rw [setC_length HE.out]; exact HE.out) R1.out (by rw [setC_length HE.out]; omega)).mono ?_
      rintro e w3 ⟨A2, c2, rfl, hr2, hbel⟩
      have hs0 := conv_rd (P := Try.prog) Try.underlying22 Try.underlying5 Try.underlying9 (HX2.out.below hbel)
      have hs1 := conv_rd (P := Try.prog) Try.underlying22 Try.underlying5 Try.underlying9 hr2
      have HB3 := Lib.hid (below_two HB2.out hbel)
      clear R1 hr2 hbel HX2 HB2 HX1 HBL
      go_wp2
      go_ret
      exact ⟨rfl, HB3.out⟩
    · have e1 : (cellE l.length i == 0) = false := by simpa using he
      have e2 : (cellE l.length i != 0) = true := by simpa using he
      have e3 : setC l i v = [] := by rw [setC, if_neg he]
      have e4 : cellR l i = 0 := by
        unfold cellE at he
        unfold cellR
        split
        · rfl
        · rename_i hq
          rw [if_neg hq] at he
          split
          · rename_i hz
            rw [if_pos hz] at he
            exact absurd rfl he
          · rfl
      have E3 := Lib.hid e3
      have E4 := Lib.hid e4
      clear he e3 e4
      go_wp2_with fail
      refine (Cell_is A c i l w1 _ 0 _ rfl E4.out rfl HX1.out HB.out).mono ?_
      rintro e w' ⟨rfl, rfl⟩
      go_wp2_with fail
      refine (SetCell_is A c i v l w1 _ [] _ rfl E3.out rfl HX1.out (by omega)).mono ?_
      rintro e w2 ⟨A1, c1, rfl, hr1, hbel⟩
      have HB2 := Lib.hid (below_two HBL.out hbel)
      clear hr1 hbel
      go_wp2
      go_ret
      exact ⟨rfl, HB2.out⟩

set_option maxHeartbeats 1000000 in
theorem MemoryApart_walk (A : Option Addr) (c : Nat) (i j : Int) (l : List Int) (w : World) (hx : RdI w .u8 A c l) (hb : isB l) :
    Calls Try.prog 7 #[.slice A l.length c, .int .i64 i, .int .i64 j] w fun e w' => e = .returned (.bool true) ∧ Below w.heap.size w w' := by
  have HX := Lib.hid hx
  have HB := Lib.hid hb
  clear hx hb
  go_enter Try.func7, Try.ntmps7
  go_wp2_with fail
  refine (awake_any w).mono ?_
  rintro e w1 ⟨rfl, hbel⟩
  have HX1 := Lib.hid (HX.out.below hbel)
  have HBL := Lib.hid hbel
  clear hbel HX
  by_cases h200 : 200 < l.length
  · go_wp2
    go_ret
    exact ⟨rfl, HBL.out⟩
  · go_wp2_with fail
    refine (SetCell_is A c i (-1) l w1 _ _ _ rfl rfl rfl HX1.out (by omega)).mono ?_
    rintro e w2 ⟨A1, c1, rfl, hr1, hbel⟩
    have R1 := Lib.hid hr1
    have HX2 := Lib.hid (HX1.out.below hbel)
    have HB2 := Lib.hid (below_two HBL.out hbel)
    clear hr1 hbel HX1 HBL
    go_wp2_with fail
    refine (SetByte_is A c i 255 l w2 _ _ _ rfl rfl rfl HX2.out (by omega)).mono ?_
    rintro e w3 ⟨A2, c2, rfl, hr2, hbel⟩
    have R1 := Lib.hid (R1.out.below hbel)
    have R2 := Lib.hid hr2
    have HX3 := Lib.hid (HX2.out.below hbel)
    have HB3 := Lib.hid (below_two HB2.out hbel)
    clear hr2 hbel HX2 HB2
    go_wp2_with fail
    refine (Byte_is A c j l w3 _ _ _ rfl rfl rfl HX3.out HB.out).mono ?_
    rintro e w' ⟨rfl, rfl⟩
    go_wp2_with fail
    refine (Byte_is A1 c1 j _ w3 _ _ _ rfl rfl rfl R1.out (isB_setC HB.out i _)).mono ?_
    rintro e w' ⟨rfl, rfl⟩
    go_wp2_with fail
    refine (Byte_is A2 c2 j _ w3 _ _ _ rfl rfl rfl R2.out (isB_setB HB.out i _)).mono ?_
    rintro e w' ⟨rfl, rfl⟩
    by_cases hg : byteE l.length j = 0
    · have hj : 0 ≤ j ∧ j < l.length := by unfold byteE at hg; split at hg <;> omega
      obtain ⟨hj0, hj1⟩ := hj
      by_cases he : cellE l.length i = 0
      · have hi : 0 ≤ i ∧ i + 8 ≤ l.length := by obtain ⟨k, rfl, _, _⟩ := cellE_zero he; omega
        obtain ⟨hi0, hi1⟩ := hi
        have hf : byteE l.length i = 0 := by rw [byteE, if_neg (by omega)]
        rw [byteR_setC he hg, byteR_setB hf hg, he, hf, hg]
        clear he hf hg
        generalize byteR l j = x
        by_cases h1 : i ≤ j ∧ j < i + 8
        · rw [if_pos h1]
          by_cases h2 : j = i
          · rw [if_pos h2]
            subst h2
            go_wp2
            go_ret
            exact ⟨rfl, HB3.out⟩
          · rw [if_neg h2]
            have b2 : (j == i) = false := by simpa using h2
            obtain ⟨h1a, h1b⟩ := h1
            clear h2
            go_wp2
            go_ret
            exact ⟨rfl, HB3.out⟩
        · rw [if_neg h1]
          by_cases h2 : j = i
          · omega
          · rw [if_neg h2]
            have b2 : (j == i) = false := by simpa using h2
            by_cases h3 : i ≤ j
            · have h4 : i + 8 ≤ j := by omega
              clear h1 h2
              go_wp2
              go_ret
              exact ⟨rfl, HB3.out⟩
            · have h4 : j < i := by omega
              clear h1 h2 h3
              go_wp2
              go_ret
              exact ⟨rfl, HB3.out⟩
      · have e1 : (cellE l.length i == 0) = false := by simpa using he
        have e2 : (cellE l.length i != 0) = true := by simpa using he
        by_cases hf : byteE l.length i = 0
        · rw [byteR_setB hf hg, hf, hg]
          clear hf hg he
          generalize byteR l j = x
          generalize byteR (setC l i (-1)) j = y
          by_cases h2 : j = i
          · rw [if_pos h2]
            subst h2
            go_wp2
            go_ret
            exact ⟨rfl, HB3.out⟩
          · rw [if_neg h2]
            have b2 : (j == i) = false := by simpa using h2
            clear h2
            go_wp2
            go_ret
            exact ⟨rfl, HB3.out⟩
        · have f1 : (byteE l.length i == 0) = false := by simpa using hf
          have f2 : (byteE l.length i != 0) = true := by simpa using hf
          rw [hg]
          clear hf hg he
          generalize byteR l j = x
          generalize byteR (setC l i (-1)) j = y
          generalize byteR (setB l i 255) j = z
          go_wp2
          go_ret
          exact ⟨rfl, HB3.out⟩
    · have g1 : (byteE l.length j == 0) = false := by simpa using hg
      have g2 : (byteE l.length j != 0) = true := by simpa using hg
      have g3 : byteR l j = 0 := by
        unfold byteE at hg
        unfold byteR
        split
        · rfl
        · rename_i hq
          rw [if_neg hq] at hg
          exact absurd rfl hg
      rw [g3]
      clear g3 hg
      go_wp2
      go_ret
      exact ⟨rfl, HB3.out⟩

set_option maxHeartbeats 1000000 in
theorem MemoryBytes_walk (A : Option Addr) (c : Nat) (i : Int) (l : List Int) (w : World) (hx : RdI w .u8 A c l) (hb : isB l) :
    Calls Try.prog 5 #[.slice A l.length c, .int .i64 i] w fun e w' => e = .returned (.bool true) ∧ Below w.heap.size w w' := by
  have HX := Lib.hid hx
  have HB := Lib.hid hb
  clear hx hb
  go_enter Try.func5, Try.ntmps5
  go_wp2_with fail
  refine (awake_any w).mono ?_
  rintro e w1 ⟨rfl, hbel⟩
  have HX1 := Lib.hid (HX.out.below hbel)
  have HBL := Lib.hid hbel
  clear hbel HX
  by_cases h200 : 200 < l.length
  · go_wp2
    go_ret
    exact ⟨rfl, HBL.out⟩
  · by_cases he : cellE l.length i = 0
    · obtain ⟨k, rfl, hk, h8⟩ := cellE_zero he
      have hr : cellR l k = wrap64 (le ((l.drop k).take 8)) := by rw [cellR, if_neg (by omega), if_pos (by omega)]; rfl
      have hB8 : bytesR l k 8 = (l.drop k).take 8 := by
        rw [bytesR, if_pos (by rw [bytesE, if_neg (by omega)])]
        rfl
      have hE8 : bytesE l.length k 8 = 0 := by rw [bytesE, if_neg (by omega)]
      have hl8 : ((l.drop k).take 8).length = 8 := by simp; omega
      have hget : ∀ j : Nat, j < 8 → byteR l ((k : Int) + j) = ((l.drop k).take 8).getD j 0 := by
        intro j hj
        have e : (k : Int) + j = ((k + j : Nat) : Int) := by omega
        rw [e, byteR_in (by omega)]
        simp [List.getD_eq_getElem?_getD, hj]
      have hbE : ∀ j : Nat, j < 8 → byteE l.length ((k : Int) + j) = 0 := by
        intro j hj
        rw [byteE, if_neg (by omega)]
      have HR := Lib.hid hr
      have HE := Lib.hid he
      have HBy := Lib.hid hB8
      have HBe := Lib.hid hE8
      have HG := Lib.hid hget
      have HBE := Lib.hid hbE
      have HI := Lib.hid (isB_take (isB_drop HB.out k) 8)
      have HL8 := Lib.hid hl8
      clear hr he hB8 hE8 hget hbE hl8
      go_wp2_with fail
      refine (Cell_is A c k l w1 _ _ 0 rfl HR.out HE.out HX1.out HB.out).mono ?_
      rintro e w' ⟨rfl, rfl⟩
      go_wp2_with fail
      refine (Bytes_any A c k 8 l w1 HX1.out (by decide)).mono ?_
      rintro e w' ⟨A1, c1, rfl, hr1, rfl⟩
      rw [HBy.out] at hr1
      rw [HBy.out, HBe.out]
      generalize (l.drop k).take 8 = b at hr1 HR HG HI HL8 HBy ⊢
      obtain ⟨ad, rfl, hc⟩ := hr1.all (by rw [HL8.out]; decide)
      rw [HL8.out] at hc
      rw [HL8.out]
      have HC := Lib.hid hc
      clear hc hr1 HBy
      go_wp2_with fail
      go_loop [10, 11] (fun n i => ∃ m : Nat, m ≤ 8 ∧ i = .int .i64 (m - 1) ∧ n = .int .i64 (wrap64 (le (b.drop m)))) (fun _ i => (intOf i + 1).toNat)
      case atStart => exact ⟨8, by omega, rfl, by rw [List.drop_eq_nil_of_le (Nat.le_of_eq HL8.out)]; simp [le, wrap64]⟩
      case round =>
        obtain ⟨m, hm, rfl, rfl⟩ := hrel
        rcases m with _ | m
        · rw [List.drop_zero]
          go_wp2
          go_ret
          exact ⟨rfl, HBL.out⟩
        · have hcell := HC.out m (by omega)
          have hr := isB_getD HI.out m
          have hd := drop_cons (l := b) (k := m) (by rw [HL8.out]; omega)
          have hg := HG.out m (by omega)
          have he := HBE.out m (by omega)
          generalize b.getD m 0 = x at hcell hr hd hg
          obtain ⟨hr0, hr1⟩ := hr
          have HD := Lib.hid hd
          have HG1 := Lib.hid hg
          have HE1 := Lib.hid he
          clear hd hg he
          have e1 : ((m + 1 : Nat) : Int) - 1 = m := by omega
          rw [e1]
          clear e1
          go_wp2_with (go_at_call 12; refine (Byte_is A c ((k : Int) + m) l _ _ x 0 rfl HG1.out HE1.out HX1.out HB.out).mono ?_; rintro e w' ⟨rfl, rfl⟩)
          go_round
          case rel =>
            refine ⟨m, by omega, rfl, ?_⟩
            have e2 : le (b.drop m) = le (b.drop (m + 1)) * 256 + x := by
              rw [HD.out, le]
              omega
            have e3 : ∀ y : Int, wrap64 (wrap64 (wrap64 y * 256) + x) = wrap64 (y * 256 + x) := by intro y; unfold wrap64; omega
            rw [e2, e3]
          case measure => simp [intOf] <;> omega
    · have e1 : (cellE l.length i == 0) = false := by simpa using he
      have e2 : (cellE l.length i != 0) = true := by simpa using he
      clear he
      go_wp2_with fail
      refine (Cell_is A c i l w1 _ _ _ rfl rfl rfl HX1.out HB.out).mono ?_
      rintro e w' ⟨rfl, rfl⟩
      go_wp2
      go_ret
      exact ⟨rfl, HBL.out⟩
end Go.Proofs.Yteefiecolndfkaa
