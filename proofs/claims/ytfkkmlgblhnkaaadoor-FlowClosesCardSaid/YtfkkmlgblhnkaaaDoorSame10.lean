
/- nostosref10: are two states the same (of states that are); a state of few things. -/
import Derived.Test.YtfkkmlgblhnkaaaDoorRAsm10
import Derived.StillTailTactics
import Derived.Deep.QuietTactic
import Derived.BigQuiet
namespace Go.Proofs.YtfkkmlgblhnkaaaDoor
open Go.RowKit

set_option maxHeartbeats 1000000 in
theorem ints_same (A B : Option Addr) (ca cb n : Nat) (l : List Int) (w : World) (hn : l.length = n) (hx : RdI w .i64 A ca l) (hy : RdI w .i64 B cb l) (hc : n ≤ 140737488355328) :
    Calls Tryd.prog 27 #[.slice A n ca, .slice B n cb] w fun e w' => e = .returned (.bool true) ∧ Below w.heap.size w w' := by
  have HN := Lib.hid hn
  have HX := Lib.hid hx
  have HY := Lib.hid hy
  have HW0 := Lib.hid (Below.refl w.heap.size w)
  clear hx hy hn
  go_enter Tryd.func27, Tryd.ntmps27
  go_wp2_with fail
  go_loopw [5] (fun y wi => ∃ k : Nat, y = .int .i64 k ∧ k ≤ n ∧ Hid (Below w.heap.size w wi)) (fun y _ => n - (intOf y).toNat)
  case atStart => exact ⟨0, rfl, by omega, HW0⟩
  case round =>
    obtain ⟨k, rfl, hk, HB⟩ := hrel
    by_cases hlt : k < n
    · have hkl : k < l.length := by rw [HN.out]; exact hlt
      obtain ⟨ad, rfl, e0⟩ := RdI.at_ (HX.out.below HB.out) hkl
      obtain ⟨bd, rfl, g0⟩ := RdI.at_ (HY.out.below HB.out) hkl
      obtain ⟨y, hy⟩ : ∃ y, l.getD k 0 = y := ⟨_, rfl⟩
      rw [hy] at e0 g0
      have b1 : (0 : Int) ≤ (k : Int) := by omega
      have b2 : (k : Int) < (n : Int) := by omega
      clear hy
      go_wp2_with fail
      go_quiet (fail)
      have HB2 := Lib.hid (below_two HB.out (below_drewN wr nq))
      go_wp2
      go_roundw
      case rel => exact ⟨k + 1, by go_num, by omega, HB2⟩
      case measure => simp [intOf] <;> omega
    · go_wp2
      go_ret
      exact ⟨rfl, HB.out⟩

set_option maxHeartbeats 1000000 in
theorem slots_same (A B : Option Addr) (ca cb n : Nat) (l : List (Int × Bool)) (w : World) (hn : l.length = n) (hx : RdE w encSl 2 A ca l) (hy : RdE w encSl 2 B cb l) (hc : n ≤ 140737488355328) :
    Calls Tryd.prog 28 #[.slice A n ca, .slice B n cb] w fun e w' => e = .returned (.bool true) ∧ Below w.heap.size w w' := by
  have HN := Lib.hid hn
  have HX := Lib.hid hx
  have HY := Lib.hid hy
  have HW0 := Lib.hid (Below.refl w.heap.size w)
  clear hx hy hn
  go_enter Tryd.func28, Tryd.ntmps28
  go_wp2_with fail
  go_loopw [5] (fun y wi => ∃ k : Nat, y = .int .i64 k ∧ k ≤ n ∧ Hid (Below w.heap.size w wi)) (fun y _ => n - (intOf y).toNat)
  case atStart => exact ⟨0, rfl, by omega, HW0⟩
  case round =>
    obtain ⟨k, rfl, hk, HB⟩ := hrel
    by_cases hlt : k < n
    · have hkl : k < l.length := by rw [HN.out]; exact hlt
      obtain ⟨ad, had, hcad⟩ := RdE.all encSl_len (by decide) (HX.out.below HB.out) (by omega)
      obtain rfl := had
      obtain ⟨bd, hbd, hcbd⟩ := RdE.all encSl_len (by decide) (HY.out.below HB.out) (by omega)
      obtain rfl := hbd
      have e0 := hcad.at0 hkl (v := .int .i64 (l[k]!).1) rfl
      have e1 := hcad.at' hkl 1 (by decide) (v := .bool (l[k]!).2) rfl
      have g0 := hcbd.at0 hkl (v := .int .i64 (l[k]!).1) rfl
      have g1 := hcbd.at' hkl 1 (by decide) (v := .bool (l[k]!).2) rfl
      obtain ⟨y, hy⟩ : ∃ y, l[k]! = y := ⟨_, rfl⟩
      rw [hy] at e0 e1 g0 g1
      clear hcad hcbd
      have b1 : (0 : Int) ≤ (k : Int) := by omega
      have b2 : (k : Int) < (n : Int) := by omega
      clear hy
      go_wp2_with fail
      go_quiet (fail)
      have HB2 := Lib.hid (below_two HB.out (below_drewN wr nq))
      go_wp2
      go_roundw
      case rel => exact ⟨k + 1, by go_num, by omega, HB2⟩
      case measure => simp [intOf] <;> omega
    · go_wp2
      go_ret
      exact ⟨rfl, HB.out⟩

set_option maxHeartbeats 1000000 in
theorem words_same (A B : Option Addr) (ca cb n : Nat) (l : List Wd) (w : World) (hn : l.length = n) (hx : RdE w encW 4 A ca l) (hy : RdE w encW 4 B cb l) (hc : n ≤ 140737488355328) :
    Calls Tryd.prog 29 #[.slice A n ca, .slice B n cb] w fun e w' => e = .returned (.bool true) ∧ Below w.heap.size w w' := by
  have HN := Lib.hid hn
  have HX := Lib.hid hx
  have HY := Lib.hid hy
  have HW0 := Lib.hid (Below.refl w.heap.size w)
  clear hx hy hn
  go_enter Tryd.func29, Tryd.ntmps29
  go_wp2_with fail
  go_loopw [5] (fun y wi => ∃ k : Nat, y = .int .i64 k ∧ k ≤ n ∧ Hid (Below w.heap.size w wi)) (fun y _ => n - (intOf y).toNat)
  case atStart => exact ⟨0, rfl, by omega, HW0⟩
  case round =>
    obtain ⟨k, rfl, hk, HB⟩ := hrel
    by_cases hlt : k < n
    · have hkl : k < l.length := by rw [HN.out]; exact hlt
      obtain ⟨ad, had, hcad⟩ := RdE.all encW_len (by decide) (HX.out.below HB.out) (by omega)
      obtain rfl := had
      obtain ⟨bd, hbd, hcbd⟩ := RdE.all encW_len (by decide) (HY.out.below HB.out) (by omega)
      obtain rfl := hbd
      have e0 := hcad.at0 hkl (v := .string (l[k]!).nm) rfl
      have e1 := hcad.at' hkl 1 (by decide) (v := .int .i64 (l[k]!).code) rfl
      have e2 := hcad.at' hkl 2 (by decide) (v := .bool (l[k]!).now) rfl
      have e3 := hcad.at' hkl 3 (by decide) (v := .bool (l[k]!).hid) rfl
      have g0 := hcbd.at0 hkl (v := .string (l[k]!).nm) rfl
      have g1 := hcbd.at' hkl 1 (by decide) (v := .int .i64 (l[k]!).code) rfl
      have g2 := hcbd.at' hkl 2 (by decide) (v := .bool (l[k]!).now) rfl
      have g3 := hcbd.at' hkl 3 (by decide) (v := .bool (l[k]!).hid) rfl
      obtain ⟨y, hy⟩ : ∃ y, l[k]! = y := ⟨_, rfl⟩
      rw [hy] at e0 e1 e2 e3 g0 g1 g2 g3
      clear hcad hcbd
      have b1 : (0 : Int) ≤ (k : Int) := by omega
      have b2 : (k : Int) < (n : Int) := by omega
      clear hy
      go_wp2_with fail
      go_quiet (fail)
      have HB2 := Lib.hid (below_two HB.out (below_drewN wr nq))
      go_wp2
      go_roundw
      case rel => exact ⟨k + 1, by go_num, by omega, HB2⟩
      case measure => simp [intOf] <;> omega
    · go_wp2
      go_ret
      exact ⟨rfl, HB.out⟩

set_option maxHeartbeats 1000000 in
theorem spots_same (A B : Option Addr) (ca cb n : Nat) (l : List (Int × Int)) (w : World) (hn : l.length = n) (hx : RdE w encSp 2 A ca l) (hy : RdE w encSp 2 B cb l) (hc : n ≤ 140737488355328) :
    Calls Tryd.prog 30 #[.slice A n ca, .slice B n cb] w fun e w' => e = .returned (.bool true) ∧ Below w.heap.size w w' := by
  have HN := Lib.hid hn
  have HX := Lib.hid hx
  have HY := Lib.hid hy
  have HW0 := Lib.hid (Below.refl w.heap.size w)
  clear hx hy hn
  go_enter Tryd.func30, Tryd.ntmps30
  go_wp2_with fail
  go_loopw [5] (fun y wi => ∃ k : Nat, y = .int .i64 k ∧ k ≤ n ∧ Hid (Below w.heap.size w wi)) (fun y _ => n - (intOf y).toNat)
  case atStart => exact ⟨0, rfl, by omega, HW0⟩
  case round =>
    obtain ⟨k, rfl, hk, HB⟩ := hrel
    by_cases hlt : k < n
    · have hkl : k < l.length := by rw [HN.out]; exact hlt
      obtain ⟨ad, had, hcad⟩ := RdE.all encSp_len (by decide) (HX.out.below HB.out) (by omega)
      obtain rfl := had
      obtain ⟨bd, hbd, hcbd⟩ := RdE.all encSp_len (by decide) (HY.out.below HB.out) (by omega)
      obtain rfl := hbd
      have e0 := hcad.at0 hkl (v := .int .i64 (l[k]!).1) rfl
      have e1 := hcad.at' hkl 1 (by decide) (v := .int .i64 (l[k]!).2) rfl
      have g0 := hcbd.at0 hkl (v := .int .i64 (l[k]!).1) rfl
      have g1 := hcbd.at' hkl 1 (by decide) (v := .int .i64 (l[k]!).2) rfl
      obtain ⟨y, hy⟩ : ∃ y, l[k]! = y := ⟨_, rfl⟩
      rw [hy] at e0 e1 g0 g1
      clear hcad hcbd
      have b1 : (0 : Int) ≤ (k : Int) := by omega
      have b2 : (k : Int) < (n : Int) := by omega
      clear hy
      go_wp2_with fail
      go_quiet (fail)
      have HB2 := Lib.hid (below_two HB.out (below_drewN wr nq))
      go_wp2
      go_roundw
      case rel => exact ⟨k + 1, by go_num, by omega, HB2⟩
      case measure => simp [intOf] <;> omega
    · go_wp2
      go_ret
      exact ⟨rfl, HB.out⟩

end Go.Proofs.YtfkkmlgblhnkaaaDoor
