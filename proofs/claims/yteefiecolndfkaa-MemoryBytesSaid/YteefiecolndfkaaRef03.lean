/- Package nostosref03: the same as package memory. -/
import Derived.Test.YteefiecolndfkaaMem3
namespace Go.Proofs.Yteefiecolndfkaa
open Go.RowKit

set_option maxHeartbeats 400000 in
theorem RefByte_any (A : Option Addr) (c : Nat) (i : Int) (l : List Int) (w : World) (hx : RdI w .u8 A c l) (hb : isB l) :
    Calls Try.prog 13 #[.slice A l.length c, .int .i64 i] w fun e w' => e = .returned (.tuple #[.int .i64 (byteR l i), .int .i64 (byteE l.length i)]) ∧ w = w' := by
  have h2 := hx.le
  have h3 := hx.cap
  by_cases h : i < 0 ∨ (l.length : Int) ≤ i
  · rw [byteR, byteE, if_pos h, if_pos h]
    clear hx hb
    by_cases h0 : i < 0
    all_goals
      go_enter Try.func13, Try.ntmps13
      go_wp2
      go_ret2
      exact ⟨rfl, rfl⟩
  · rw [byteR, byteE, if_neg h, if_neg h]
    obtain ⟨k, rfl⟩ := Int.eq_ofNat_of_zero_le (show 0 ≤ i by omega)
    obtain ⟨ad, rfl, hc⟩ := hx.all (by omega)
    have hk := hc k (by omega)
    have hr := isB_getD hb k
    rw [Int.toNat_natCast]
    clear hx hb hc
    generalize l.getD k 0 = x at hk hr ⊢
    obtain ⟨hr0, hr1⟩ := hr
    go_enter Try.func13, Try.ntmps13
    go_wp2
    go_ret2
    exact ⟨rfl, rfl⟩

theorem wrap64_mul (x : Int) : wrap64 (wrap64 x * 256) = wrap64 (x * 256) := by unfold wrap64; omega

set_option maxHeartbeats 1000000 in
theorem RefCell_any (A : Option Addr) (c : Nat) (i : Int) (l : List Int) (w : World) (hx : RdI w .u8 A c l) (hb : isB l) :
    Calls Try.prog 11 #[.slice A l.length c, .int .i64 i] w fun e w' => e = .returned (.tuple #[.int .i64 (cellR l i), .int .i64 (cellE l.length i)]) ∧ w = w' := by
  have h2 := hx.le
  have h3 := hx.cap
  unfold maxLen at h3
  by_cases h : i < 0 ∨ (l.length : Int) - 8 < i
  · rw [cellR, cellE, if_pos h, if_pos h]
    clear hx hb
    by_cases h0 : i < 0
    all_goals
      go_enter Try.func11, Try.ntmps11
      go_wp2
      go_ret2
      exact ⟨rfl, rfl⟩
  · rw [cellR, cellE, if_neg h, if_neg h]
    obtain ⟨k, rfl⟩ := Int.eq_ofNat_of_zero_le (show 0 ≤ i by omega)
    by_cases h8 : (k : Int) % 8 = 0
    · rw [if_pos h8, if_pos h8, Int.toNat_natCast]
      obtain ⟨ad, rfl, hc⟩ := hx.all (by omega)
      have h1 : k + 8 ≤ l.length := by omega
      have HC : Hid (∀ j, j < 8 → w.cell? (ad.add (k + j)) = some (.int .u8 (((l.drop k).take 8).getD j 0))) := Lib.hid fun j hj => by
        rw [hc (k + j) (by omega)]
        simp [List.getD_eq_getElem?_getD, hj]
      have E8 : Hid (((l.drop k).take 8).length = 8) := Lib.hid (by simp; omega)
      have HB := Lib.hid (isB_take (isB_drop hb k) 8)
      unfold cellAt
      generalize (l.drop k).take 8 = b at E8 HC HB ⊢
      have b8 : ((k : Int) % 8 == 0) = true := by simpa using h8
      clear hx hb hc h h8
      go_enter Try.func11, Try.ntmps11
      go_wp2
      go_loop [6, 7] (fun n i => ∃ m : Nat, m ≤ 8 ∧ i = .int .i64 (m - 1) ∧ n = .int .i64 (wrap64 (le (b.drop m)))) (fun _ i => (intOf i + 1).toNat)
      case atStart => exact ⟨8, by omega, rfl, by rw [List.drop_eq_nil_of_le (Nat.le_of_eq E8.out)]; simp [le, wrap64]⟩
      case round =>
        obtain ⟨m, hm, rfl, rfl⟩ := hrel
        rcases m with _ | m
        · go_wp2
          go_ret2
          exact ⟨rfl, rfl⟩
        · have hcell := HC.out m (by omega)
          have hr := isB_getD HB.out m
          have hd := drop_cons (l := b) (k := m) (by rw [E8.out]; omega)
          generalize b.getD m 0 = x at hcell hr hd
          obtain ⟨hr0, hr1⟩ := hr
          have HD := Lib.hid hd
          clear hd
          have e1 : ((m + 1 : Nat) : Int) - 1 = m := by omega
          rw [e1]
          clear e1
          go_wp2
          go_round
          case rel =>
            refine ⟨m, by omega, rfl, ?_⟩
            have e2 : le (b.drop m) = le (b.drop (m + 1)) * 256 + x := by
              rw [HD.out, le]
              omega
            rw [wrap64_mul, i64_join _ _ hr0 hr1, e2]
          case measure => simp [intOf] <;> omega
    · rw [if_neg h8, if_neg h8]
      have b8 : ((k : Int) % 8 == 0) = false := by simpa using h8
      clear hx hb h8
      go_enter Try.func11, Try.ntmps11
      go_wp2
      all_goals (go_ret2; exact ⟨rfl, rfl⟩)

set_option maxHeartbeats 1000000 in
theorem RefBytes_any (A : Option Addr) (c : Nat) (i m : Int) (l : List Int) (w : World) (hx : RdI w .u8 A c l) (hm : m ≤ 9223372036854775807) :
    Calls Try.prog 15 #[.slice A l.length c, .int .i64 i, .int .i64 m] w fun e w' => ∃ A' c', e = .returned (.tuple #[.slice A' (bytesR l i m).length c', .int .i64 (bytesE l.length i m)]) ∧ RdI w .u8 A' c' (bytesR l i m) ∧ w = w' := by
  have h2 := hx.le
  have h3 := hx.cap
  have HX := Lib.hid hx
  clear hx
  unfold maxLen at h3
  by_cases h : i < 0 ∨ m < 0 ∨ (l.length : Int) < m ∨ l.length - m < i
  · have e1 : bytesE l.length i m = -9 := by rw [bytesE, if_pos h]
    have e2 : bytesR l i m = [] := by rw [bytesR, e1]; rfl
    rw [e1, e2]
    clear e1 e2
    go_enter Try.func15, Try.ntmps15
    go_wp2
    all_goals (go_ret2; exact ⟨none, 0, rfl, rd_nil _ _, rfl⟩)
  · have e1 : bytesE l.length i m = 0 := by rw [bytesE, if_neg h]
    have e2 : bytesR l i m = (l.drop i.toNat).take m.toNat := by rw [bytesR, e1, if_pos rfl]
    rw [e1, e2]
    obtain ⟨k, rfl⟩ := Int.eq_ofNat_of_zero_le (show 0 ≤ i by omega)
    obtain ⟨j, rfl⟩ := Int.eq_ofNat_of_zero_le (show 0 ≤ m by omega)
    rw [Int.toNat_natCast, Int.toNat_natCast]
    have hc := HX.out.cut k j (c - k) (by omega) (by omega) (by omega)
    have e3 : ((l.drop k).take j).length = j := by simp; omega
    rw [e3]
    have HC := Lib.hid hc
    have b1 : decide ((l.length : Int) - j < k) = false := by simp; omega
    clear hc e1 e2 e3
    go_enter Try.func15, Try.ntmps15
    go_wp2
    all_goals go_ret2
    · have hk : c - k = 0 := by omega
      have hq := HC.out
      rw [cutA, if_pos hk] at hq
      exact ⟨A, c - k, by simp [hk], hq, rfl⟩
    · have hk : ¬ c - k = 0 := by omega
      have hq := HC.out
      rw [cutA, if_neg hk] at hq
      exact ⟨_, c - k, by simp, hq, rfl⟩
end Go.Proofs.Yteefiecolndfkaa
