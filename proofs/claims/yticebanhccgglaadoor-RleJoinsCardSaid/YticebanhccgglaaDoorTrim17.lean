
/- bytes.TrimLeft, of one byte. -/
import Derived.Test.YticebanhccgglaaDoorRTake17
namespace Go.Proofs.YticebanhccgglaaDoor
open Go.RowKit

theorem leadEq_cons_eq (x : Int) (r : List Int) : leadEq x (x :: r) = leadEq x r + 1 := by simp [leadEq]
theorem leadEq_cons_ne {x y : Int} (r : List Int) (h : y ≠ x) : leadEq x (y :: r) = 0 := by simp [leadEq, h]

set_option maxHeartbeats 1000000 in
theorem trimB_any (A : Option Addr) (c n : Nat) (l : List Int) (x : Int) (k : Nat) (w : World) (hn : l.length = n) (hk : leadEq x l = k) (hx : RdI w .u8 A c l) :
    Calls Tryd.prog 30 #[.slice A n c, .int .u8 x] w fun e w' => ∃ A' c', e = .returned (.slice A' (n - k) c') ∧ w = w' := by
  have HX := Lib.hid hx
  have HN := Lib.hid hn
  have HK := Lib.hid hk
  clear hx hn hk
  go_enter Tryd.func30, Tryd.ntmps30
  go_wp2_with fail
  go_loopw [0] (fun v wr => ∃ (A1 : Option Addr) (c1 : Nat) (l1 : List Int) (i : Nat), v = .slice A1 l1.length c1 ∧ i + l1.length = n ∧ Hid (leadEq x l1 + i = k) ∧ Hid (RdI w .u8 A1 c1 l1) ∧ wr = w) (fun v _ => sliceLen v)
  case atStart => exact ⟨A, c, l, 0, by rw [HN.out], by rw [HN.out]; omega, HK, HX, rfl⟩
  case round =>
    obtain ⟨A1, c1, l1, i, rfl, hi, HL, HR, rfl⟩ := hrel
    have hle := HR.out.le
    have hcm := HR.out.cap
    unfold maxLen at hcm
    cases l1 with
    | nil =>
      have hl := HL.out
      simp [leadEq] at hl
      simp at hi
      go_wp2
      go_ret
      exact ⟨none, 0, by rw [show n - k = 0 by omega]; rfl, rfl⟩
    | cons y r =>
      obtain ⟨ad, rfl, e0⟩ := RdI.at_ HR.out (show 0 < (y :: r).length by simp)
      have e0' : wr.cell? ad = some (.int .u8 y) := e0
      have hs2 : ∀ W : World, (Instr.sliceAt 22 (.slice (some ad) (y :: r).length c1) (some (.int .i64 1)) none none).run Tryd.prog W = .ok (.slice (cutA (some ad) 1 (c1 - 1)) ((y :: r).length - 1) (c1 - 1)) W := fun W => sl_l (some ad) (y :: r).length c1 1 W (by simp) hle
      have hcut := HR.out.cut 1 ((y :: r).length - 1) (c1 - 1) (by simp; omega) (by omega) (by omega)
      have hcl : ((y :: r).drop 1).take ((y :: r).length - 1) = r := by simp
      rw [hcl] at hcut
      have HC := Lib.hid hcut
      obtain ⟨m, hm⟩ : ∃ m, (y :: r).length = m + 1 := ⟨r.length, by simp⟩
      have hrm : r.length = m := by simpa using hm
      rw [hm] at hs2 hi
      have HM := Lib.hid hrm
      rw [hm]
      have hmc : m + 1 ≤ c1 := by rw [← hm]; exact hle
      clear hcut hcl hm hrm e0 hle
      by_cases hy : y = x
      · subst hy
        have hl := HL.out
        rw [leadEq_cons_eq] at hl
        have HL2 : Hid (leadEq y r + (i + 1) = k) := Lib.hid (by omega)
        clear hl
        go_wp2
        go_roundw
        case rel => exact ⟨_, _, r, i + 1, (by rw [HM.out]; try rfl), by rw [HM.out]; omega, HL2, HC, by trivial⟩
        case measure =>
          show m < m + 1
          omega
      · have hl := HL.out
        rw [leadEq_cons_ne r hy] at hl
        have by_ : (y == x) = false := by simpa using hy
        go_wp2
        go_ret
        exact ⟨some ad, c1, by rw [show n - k = m + 1 by omega]; rfl, rfl⟩

set_option maxRecDepth 100000 in
set_option maxHeartbeats 1000000 in
theorem Trim_any (A : Option Addr) (c n : Nat) (l : List Int) (k : Nat) (w : World) (hn : l.length = n) (hk : leadEq 0 l = k) (hx : RdI w .u8 A c l) :
    Calls Tryd.prog 21 #[.slice A n c, .string ⟨#[0]⟩] w fun e w' => ∃ A' c', e = .returned (.slice A' (n - k) c') ∧ w = w' := by
  have HX := Lib.hid hx
  have HN := Lib.hid hn
  have HK := Lib.hid hk
  clear hx hn hk
  by_cases h0 : n = 0
  · subst h0
    go_enter Tryd.func21, Tryd.ntmps21
    go_wp2
    go_ret
    exact ⟨none, 0, by rw [Nat.zero_sub]; rfl, rfl⟩
  · have b0 : ((n : Int) == 0) = false := by simpa using h0
    go_enter Tryd.func21, Tryd.ntmps21
    go_wp2_with fail
    refine (trimB_any A c n l 0 k w HN.out HK.out HX.out).mono ?_
    rintro e w' ⟨A', c', rfl, rfl⟩
    go_wp2
    go_ret
    exact ⟨_, _, rfl, rfl⟩
end Go.Proofs.YticebanhccgglaaDoor
