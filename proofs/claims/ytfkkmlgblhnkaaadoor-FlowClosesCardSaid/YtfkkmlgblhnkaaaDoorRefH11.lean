
/- nostosref11's helpers, word for word; has. -/
import Derived.Test.YtfkkmlgblhnkaaaDoorDoG11
import Derived.Test.YtfkkmlgblhnkaaaDoorREmit10
import Derived.Deep.RegionHeldLaw
namespace Go.Proofs.YtfkkmlgblhnkaaaDoor
open Go.RowKit

/-- Do such pairs stand on top? -/
def hasR (ctl kinds : List Int) : Bool := decide (2 * kinds.length ≤ ctl.length ∧ ∀ j, j < kinds.length → ctl.getD (ctl.length - 2 - 2 * j) 0 = kinds.getD j 0)

set_option maxRecDepth 100000 in
set_option maxHeartbeats 2000000 in
theorem Has_any (A : Option Addr) (c n : Nat) (l : List Int) (B : Option Addr) (cb m : Nat) (k : List Int) (b : Bool) (w : World) (hn : l.length = n) (hm : k.length = m) (hb : hasR l k = b) (hx : Rd w A n c 1 (nums .i64 l)) (hy : Rd w B m cb 1 (nums .i64 k)) (hl : n ≤ 1000000) (hk : m ≤ 10) :
    Calls Tryd.prog 21 #[.slice A n c, .slice B m cb] w fun e w' => e = .returned (.bool b) ∧ Below w.heap.size w w' := by
  have HX := Lib.hid hx
  have HY := Lib.hid hy
  have HN := Lib.hid hn
  have HM := Lib.hid hm
  have hw2 : IntKind.i64.wrap (2 * (m : Int)) = 2 * (m : Int) := by rw [IntKind.wrap_i64]; omega
  unfold hasR at hb
  rw [hn, hm] at hb
  clear hx hy hn hm
  by_cases h0 : n < 2 * m
  · have hb2 : b = false := by rw [← hb]; exact decide_eq_false (fun h => by omega)
    subst hb2
    have hd : (n : Int) < 2 * (m : Int) := by omega
    clear hb
    go_enter Tryd.func21, Tryd.ntmps21
    go_wp2
    go_ret
    exact ⟨rfl, Below.refl _ _⟩
  · have hd : ¬ (n : Int) < 2 * (m : Int) := by omega
    have HB := Lib.hid hb
    clear hb
    have HB0 := Lib.hid (Below.refl w.heap.size w)
    go_enter Tryd.func21, Tryd.ntmps21
    go_wp2_with fail
    go_loopw [5] (fun v wr => ∃ i : Nat, v = .int .i64 i ∧ i ≤ m ∧ Hid (∀ j, j < i → l.getD (n - 2 - 2 * j) 0 = k.getD j 0) ∧ Hid (Below w.heap.size w wr)) (fun v _ => m - (intOf v).toNat)
    case atStart => exact ⟨0, rfl, by omega, Lib.hid (fun j hj => by omega), HB0⟩
    case round =>
      obtain ⟨i, rfl, hi, HS, HBW⟩ := hrel
      by_cases hlt : i < m
      · obtain ⟨ad, rfl, e0⟩ := RdI.at_ (xs := l) (j := n - 2 - 2 * i) (by rw [RdI, HN.out]; exact HX.out.below HBW.out) (by rw [HN.out]; omega)
        obtain ⟨bd, rfl, e1⟩ := RdI.at_ (xs := k) (j := i) (by rw [RdI, HM.out]; exact HY.out.below HBW.out) (by rw [HM.out]; omega)
        obtain ⟨z, hz⟩ : ∃ z, n - 2 - 2 * i = z := ⟨_, rfl⟩
        rw [hz] at e0
        obtain ⟨x, hx⟩ : ∃ x, l.getD z 0 = x := ⟨_, rfl⟩
        obtain ⟨y, hy⟩ : ∃ y, k.getD i 0 = y := ⟨_, rfl⟩
        rw [hx] at e0
        rw [hy] at e1
        have hw1 : IntKind.i64.wrap (2 * (i : Int)) = 2 * (i : Int) := by rw [IntKind.wrap_i64]; omega
        have ez : (n : Int) - 2 - 2 * (i : Int) = (z : Int) := by omega
        have hwz : IntKind.i64.wrap ((n : Int) - 2 - 2 * (i : Int)) = (z : Int) := by rw [IntKind.wrap_i64]; omega
        have z0 : (0 : Int) ≤ (z : Int) := by omega
        have z1 : (z : Int) < (n : Int) := by omega
        have i0 : (0 : Int) ≤ (i : Int) := by omega
        have i1 : (i : Int) < (m : Int) := by omega
        have HZ := Lib.hid hz
        have HXX := Lib.hid hx
        have HYY := Lib.hid hy
        clear hx hy hz
        by_cases hxy : x = y
        · subst hxy
          go_wp2_with fail
          go_quiet (fail)
          have HBN := Lib.hid (HBW.out.trans ((below_drewN wr nq).mono HBW.out.size))
          go_wp2
          go_roundw
          case rel =>
            refine ⟨i + 1, by go_num, by omega, Lib.hid (fun j hj => ?_), HBN⟩
            by_cases hji : j < i
            · exact HS.out j hji
            · obtain rfl : j = i := by omega
              rw [HZ.out, HXX.out, HYY.out]
          case measure => simp [intOf] <;> omega
        · have hb2 : b = false := by
            rw [← HB.out]
            refine decide_eq_false (fun h => hxy ?_)
            have := h.2 i hlt
            rw [HZ.out, HXX.out, HYY.out] at this
            exact this
          subst hb2
          have bxy : (x == y) = false := by simpa using hxy
          have bnxy : (x != y) = true := by rw [bne, bxy]; rfl
          go_wp2_with fail
          go_quiet (fail)
          have HBN := Lib.hid (HBW.out.trans ((below_drewN wr nq).mono HBW.out.size))
          go_wp2
          go_ret
          exact ⟨rfl, HBN.out⟩
      · obtain rfl : i = m := by omega
        have hb2 : b = true := by rw [← HB.out]; exact decide_eq_true ⟨by omega, HS.out⟩
        subst hb2
        go_wp2
        go_ret
        exact ⟨rfl, HBW.out⟩

theorem wants_98 (w : World) : Calls Tryd.prog 20 #[.int .i64 98] w fun e w' => e = .returned (.slice none 0 0) ∧ w' = w := by
  go_enter Tryd.func20, Tryd.ntmps20
  go_wp2
  go_ret
  exact ⟨rfl, rfl⟩
theorem opened_98 (c a h : Int) (w : World) : Calls Tryd.prog 22 #[.int .i64 98, .int .i64 c, .int .i64 a, .int .i64 h] w fun e w' => e = .returned (.slice (some ⟨w.heap.size, 0, none⟩) 2 2) ∧ w' = w.alloc (.cells #[.int .i64 (1), .int .i64 (c)] 3) := by
  go_enter Tryd.func22, Tryd.ntmps22
  go_wp2
  go_ret
  exact ⟨rfl, rfl⟩
theorem laid_98 (a : Int) (w : World) : Calls Tryd.prog 23 #[.int .i64 98, .int .i64 a] w fun e w' => e = .returned (.tuple #[.slice (some ⟨w.heap.size, 0, none⟩) 2 2, .bool true]) ∧ w' = w.alloc (.cells #[.int .i64 (4), .int .i64 (0)] 3) := by
  go_enter Tryd.func23, Tryd.ntmps23
  go_wp2
  go_ret2
  exact ⟨rfl, rfl⟩
theorem settled_98 (a b : Int) (w : World) : Calls Tryd.prog 25 #[.int .i64 98, .int .i64 a, .int .i64 b] w fun e w' => e = .returned (.tuple #[.int .i64 0, .bool false]) ∧ w' = w := by
  go_enter Tryd.func25, Tryd.ntmps25
  go_wp2
  go_ret2
  exact ⟨rfl, rfl⟩
theorem wants_99 (w : World) : Calls Tryd.prog 20 #[.int .i64 99] w fun e w' => e = .returned (.slice (some ⟨w.heap.size, 0, none⟩) 1 1) ∧ w' = w.alloc (.cells #[.int .i64 (1)] 3) := by
  go_enter Tryd.func20, Tryd.ntmps20
  go_wp2
  go_ret
  exact ⟨rfl, rfl⟩
theorem opened_99 (c a h : Int) (w : World) : Calls Tryd.prog 22 #[.int .i64 99, .int .i64 c, .int .i64 a, .int .i64 h] w fun e w' => e = .returned (.slice (some ⟨w.heap.size, 0, none⟩) 2 2) ∧ w' = w.alloc (.cells #[.int .i64 (1), .int .i64 (c)] 3) := by
  go_enter Tryd.func22, Tryd.ntmps22
  go_wp2
  go_ret
  exact ⟨rfl, rfl⟩
theorem laid_99 (a : Int) (w : World) : Calls Tryd.prog 23 #[.int .i64 99, .int .i64 a] w fun e w' => e = .returned (.tuple #[.slice (some ⟨w.heap.size, 0, none⟩) 2 2, .bool true]) ∧ w' = w.alloc (.cells #[.int .i64 (3), .int .i64 (0)] 3) := by
  go_enter Tryd.func23, Tryd.ntmps23
  go_wp2
  go_ret2
  exact ⟨rfl, rfl⟩
theorem settled_99 (a b : Int) (w : World) : Calls Tryd.prog 25 #[.int .i64 99, .int .i64 a, .int .i64 b] w fun e w' => e = .returned (.tuple #[.int .i64 a, .bool true]) ∧ w' = w := by
  go_enter Tryd.func25, Tryd.ntmps25
  go_wp2
  go_ret2
  exact ⟨rfl, rfl⟩
theorem wants_100 (w : World) : Calls Tryd.prog 20 #[.int .i64 100] w fun e w' => e = .returned (.slice (some ⟨w.heap.size, 0, none⟩) 1 1) ∧ w' = w.alloc (.cells #[.int .i64 (1)] 3) := by
  go_enter Tryd.func20, Tryd.ntmps20
  go_wp2
  go_ret
  exact ⟨rfl, rfl⟩
theorem opened_100 (c a h : Int) (w : World) : Calls Tryd.prog 22 #[.int .i64 100, .int .i64 c, .int .i64 a, .int .i64 h] w fun e w' => e = .returned (.slice none 0 0) ∧ w' = w := by
  go_enter Tryd.func22, Tryd.ntmps22
  go_wp2
  go_ret
  exact ⟨rfl, rfl⟩
theorem laid_100 (a : Int) (w : World) : Calls Tryd.prog 23 #[.int .i64 100, .int .i64 a] w fun e w' => e = .returned (.tuple #[.slice none 0 0, .bool false]) ∧ w' = w := by
  go_enter Tryd.func23, Tryd.ntmps23
  go_wp2
  go_ret2
  exact ⟨rfl, rfl⟩
theorem settled_100 (a b : Int) (w : World) : Calls Tryd.prog 25 #[.int .i64 100, .int .i64 a, .int .i64 b] w fun e w' => e = .returned (.tuple #[.int .i64 a, .bool true]) ∧ w' = w := by
  go_enter Tryd.func25, Tryd.ntmps25
  go_wp2
  go_ret2
  exact ⟨rfl, rfl⟩
theorem wants_101 (w : World) : Calls Tryd.prog 20 #[.int .i64 101] w fun e w' => e = .returned (.slice none 0 0) ∧ w' = w := by
  go_enter Tryd.func20, Tryd.ntmps20
  go_wp2
  go_ret
  exact ⟨rfl, rfl⟩
theorem opened_101 (c a h : Int) (w : World) : Calls Tryd.prog 22 #[.int .i64 101, .int .i64 c, .int .i64 a, .int .i64 h] w fun e w' => e = .returned (.slice (some ⟨w.heap.size, 0, none⟩) 2 2) ∧ w' = w.alloc (.cells #[.int .i64 (2), .int .i64 (h)] 3) := by
  go_enter Tryd.func22, Tryd.ntmps22
  go_wp2
  go_ret
  exact ⟨rfl, rfl⟩
theorem laid_101 (a : Int) (w : World) : Calls Tryd.prog 23 #[.int .i64 101, .int .i64 a] w fun e w' => e = .returned (.tuple #[.slice none 0 0, .bool false]) ∧ w' = w := by
  go_enter Tryd.func23, Tryd.ntmps23
  go_wp2
  go_ret2
  exact ⟨rfl, rfl⟩
theorem settled_101 (a b : Int) (w : World) : Calls Tryd.prog 25 #[.int .i64 101, .int .i64 a, .int .i64 b] w fun e w' => e = .returned (.tuple #[.int .i64 0, .bool false]) ∧ w' = w := by
  go_enter Tryd.func25, Tryd.ntmps25
  go_wp2
  go_ret2
  exact ⟨rfl, rfl⟩
theorem wants_102 (w : World) : Calls Tryd.prog 20 #[.int .i64 102] w fun e w' => e = .returned (.slice (some ⟨w.heap.size, 0, none⟩) 1 1) ∧ w' = w.alloc (.cells #[.int .i64 (2)] 3) := by
  go_enter Tryd.func20, Tryd.ntmps20
  go_wp2
  go_ret
  exact ⟨rfl, rfl⟩
theorem opened_102 (c a h : Int) (w : World) : Calls Tryd.prog 22 #[.int .i64 102, .int .i64 c, .int .i64 a, .int .i64 h] w fun e w' => e = .returned (.slice none 0 0) ∧ w' = w := by
  go_enter Tryd.func22, Tryd.ntmps22
  go_wp2
  go_ret
  exact ⟨rfl, rfl⟩
theorem laid_102 (a : Int) (w : World) : Calls Tryd.prog 23 #[.int .i64 102, .int .i64 a] w fun e w' => e = .returned (.tuple #[.slice (some ⟨w.heap.size, 0, none⟩) 2 2, .bool true]) ∧ w' = w.alloc (.cells #[.int .i64 (3), .int .i64 (a)] 3) := by
  go_enter Tryd.func23, Tryd.ntmps23
  go_wp2
  go_ret2
  exact ⟨rfl, rfl⟩
theorem settled_102 (a b : Int) (w : World) : Calls Tryd.prog 25 #[.int .i64 102, .int .i64 a, .int .i64 b] w fun e w' => e = .returned (.tuple #[.int .i64 0, .bool false]) ∧ w' = w := by
  go_enter Tryd.func25, Tryd.ntmps25
  go_wp2
  go_ret2
  exact ⟨rfl, rfl⟩
theorem wants_103 (w : World) : Calls Tryd.prog 20 #[.int .i64 103] w fun e w' => e = .returned (.slice (some ⟨w.heap.size, 0, none⟩) 1 1) ∧ w' = w.alloc (.cells #[.int .i64 (2)] 3) := by
  go_enter Tryd.func20, Tryd.ntmps20
  go_wp2
  go_ret
  exact ⟨rfl, rfl⟩
theorem opened_103 (c a h : Int) (w : World) : Calls Tryd.prog 22 #[.int .i64 103, .int .i64 c, .int .i64 a, .int .i64 h] w fun e w' => e = .returned (.slice none 0 0) ∧ w' = w := by
  go_enter Tryd.func22, Tryd.ntmps22
  go_wp2
  go_ret
  exact ⟨rfl, rfl⟩
theorem laid_103 (a : Int) (w : World) : Calls Tryd.prog 23 #[.int .i64 103, .int .i64 a] w fun e w' => e = .returned (.tuple #[.slice (some ⟨w.heap.size, 0, none⟩) 2 2, .bool true]) ∧ w' = w.alloc (.cells #[.int .i64 (4), .int .i64 (a)] 3) := by
  go_enter Tryd.func23, Tryd.ntmps23
  go_wp2
  go_ret2
  exact ⟨rfl, rfl⟩
theorem settled_103 (a b : Int) (w : World) : Calls Tryd.prog 25 #[.int .i64 103, .int .i64 a, .int .i64 b] w fun e w' => e = .returned (.tuple #[.int .i64 0, .bool false]) ∧ w' = w := by
  go_enter Tryd.func25, Tryd.ntmps25
  go_wp2
  go_ret2
  exact ⟨rfl, rfl⟩
theorem wants_104 (w : World) : Calls Tryd.prog 20 #[.int .i64 104] w fun e w' => e = .returned (.slice (some ⟨w.heap.size, 0, none⟩) 1 1) ∧ w' = w.alloc (.cells #[.int .i64 (2)] 3) := by
  go_enter Tryd.func20, Tryd.ntmps20
  go_wp2
  go_ret
  exact ⟨rfl, rfl⟩
theorem opened_104 (c a h : Int) (w : World) : Calls Tryd.prog 22 #[.int .i64 104, .int .i64 c, .int .i64 a, .int .i64 h] w fun e w' => e = .returned (.slice (some ⟨w.heap.size, 0, none⟩) 4 4) ∧ w' = w.alloc (.cells #[.int .i64 (1), .int .i64 (c), .int .i64 (2), .int .i64 (a)] 3) := by
  go_enter Tryd.func22, Tryd.ntmps22
  go_wp2
  go_ret
  exact ⟨rfl, rfl⟩
theorem laid_104 (a : Int) (w : World) : Calls Tryd.prog 23 #[.int .i64 104, .int .i64 a] w fun e w' => e = .returned (.tuple #[.slice (some ⟨w.heap.size, 0, none⟩) 2 2, .bool true]) ∧ w' = w.alloc (.cells #[.int .i64 (4), .int .i64 (0)] 3) := by
  go_enter Tryd.func23, Tryd.ntmps23
  go_wp2
  go_ret2
  exact ⟨rfl, rfl⟩
theorem settled_104 (a b : Int) (w : World) : Calls Tryd.prog 25 #[.int .i64 104, .int .i64 a, .int .i64 b] w fun e w' => e = .returned (.tuple #[.int .i64 0, .bool false]) ∧ w' = w := by
  go_enter Tryd.func25, Tryd.ntmps25
  go_wp2
  go_ret2
  exact ⟨rfl, rfl⟩
theorem wants_105 (w : World) : Calls Tryd.prog 20 #[.int .i64 105] w fun e w' => e = .returned (.slice (some ⟨w.heap.size, 0, none⟩) 2 2) ∧ w' = w.alloc (.cells #[.int .i64 (2), .int .i64 (1)] 3) := by
  go_enter Tryd.func20, Tryd.ntmps20
  go_wp2
  go_ret
  exact ⟨rfl, rfl⟩
theorem opened_105 (c a h : Int) (w : World) : Calls Tryd.prog 22 #[.int .i64 105, .int .i64 c, .int .i64 a, .int .i64 h] w fun e w' => e = .returned (.slice none 0 0) ∧ w' = w := by
  go_enter Tryd.func22, Tryd.ntmps22
  go_wp2
  go_ret
  exact ⟨rfl, rfl⟩
theorem laid_105 (a : Int) (w : World) : Calls Tryd.prog 23 #[.int .i64 105, .int .i64 a] w fun e w' => e = .returned (.tuple #[.slice (some ⟨w.heap.size, 0, none⟩) 2 2, .bool true]) ∧ w' = w.alloc (.cells #[.int .i64 (3), .int .i64 (a)] 3) := by
  go_enter Tryd.func23, Tryd.ntmps23
  go_wp2
  go_ret2
  exact ⟨rfl, rfl⟩
theorem settled_105 (a b : Int) (w : World) : Calls Tryd.prog 25 #[.int .i64 105, .int .i64 a, .int .i64 b] w fun e w' => e = .returned (.tuple #[.int .i64 b, .bool true]) ∧ w' = w := by
  go_enter Tryd.func25, Tryd.ntmps25
  go_wp2
  go_ret2
  exact ⟨rfl, rfl⟩
theorem wants_106 (w : World) : Calls Tryd.prog 20 #[.int .i64 106] w fun e w' => e = .returned (.slice none 0 0) ∧ w' = w := by
  go_enter Tryd.func20, Tryd.ntmps20
  go_wp2
  go_ret
  exact ⟨rfl, rfl⟩
theorem opened_106 (c a h : Int) (w : World) : Calls Tryd.prog 22 #[.int .i64 106, .int .i64 c, .int .i64 a, .int .i64 h] w fun e w' => e = .returned (.slice (some ⟨w.heap.size, 0, none⟩) 2 2) ∧ w' = w.alloc (.cells #[.int .i64 (3), .int .i64 (c)] 3) := by
  go_enter Tryd.func22, Tryd.ntmps22
  go_wp2
  go_ret
  exact ⟨rfl, rfl⟩
theorem laid_106 (a : Int) (w : World) : Calls Tryd.prog 23 #[.int .i64 106, .int .i64 a] w fun e w' => e = .returned (.tuple #[.slice (some ⟨w.heap.size, 0, none⟩) 2 2, .bool true]) ∧ w' = w.alloc (.cells #[.int .i64 (5), .int .i64 (0)] 3) := by
  go_enter Tryd.func23, Tryd.ntmps23
  go_wp2
  go_ret2
  exact ⟨rfl, rfl⟩
theorem settled_106 (a b : Int) (w : World) : Calls Tryd.prog 25 #[.int .i64 106, .int .i64 a, .int .i64 b] w fun e w' => e = .returned (.tuple #[.int .i64 0, .bool false]) ∧ w' = w := by
  go_enter Tryd.func25, Tryd.ntmps25
  go_wp2
  go_ret2
  exact ⟨rfl, rfl⟩
theorem wants_107 (w : World) : Calls Tryd.prog 20 #[.int .i64 107] w fun e w' => e = .returned (.slice (some ⟨w.heap.size, 0, none⟩) 1 1) ∧ w' = w.alloc (.cells #[.int .i64 (3)] 3) := by
  go_enter Tryd.func20, Tryd.ntmps20
  go_wp2
  go_ret
  exact ⟨rfl, rfl⟩
theorem opened_107 (c a h : Int) (w : World) : Calls Tryd.prog 22 #[.int .i64 107, .int .i64 c, .int .i64 a, .int .i64 h] w fun e w' => e = .returned (.slice none 0 0) ∧ w' = w := by
  go_enter Tryd.func22, Tryd.ntmps22
  go_wp2
  go_ret
  exact ⟨rfl, rfl⟩
theorem laid_107 (a : Int) (w : World) : Calls Tryd.prog 23 #[.int .i64 107, .int .i64 a] w fun e w' => e = .returned (.tuple #[.slice (some ⟨w.heap.size, 0, none⟩) 2 2, .bool true]) ∧ w' = w.alloc (.cells #[.int .i64 (6), .int .i64 (wrap64 (a + 8))] 3) := by
  go_enter Tryd.func23, Tryd.ntmps23
  go_wp2
  go_ret2
  exact ⟨rfl, rfl⟩
theorem settled_107 (a b : Int) (w : World) : Calls Tryd.prog 25 #[.int .i64 107, .int .i64 a, .int .i64 b] w fun e w' => e = .returned (.tuple #[.int .i64 a, .bool true]) ∧ w' = w := by
  go_enter Tryd.func25, Tryd.ntmps25
  go_wp2
  go_ret2
  exact ⟨rfl, rfl⟩
theorem wants_108 (w : World) : Calls Tryd.prog 20 #[.int .i64 108] w fun e w' => e = .returned (.slice (some ⟨w.heap.size, 0, none⟩) 1 1) ∧ w' = w.alloc (.cells #[.int .i64 (3)] 3) := by
  go_enter Tryd.func20, Tryd.ntmps20
  go_wp2
  go_ret
  exact ⟨rfl, rfl⟩
theorem opened_108 (c a h : Int) (w : World) : Calls Tryd.prog 22 #[.int .i64 108, .int .i64 c, .int .i64 a, .int .i64 h] w fun e w' => e = .returned (.slice none 0 0) ∧ w' = w := by
  go_enter Tryd.func22, Tryd.ntmps22
  go_wp2
  go_ret
  exact ⟨rfl, rfl⟩
theorem laid_108 (a : Int) (w : World) : Calls Tryd.prog 23 #[.int .i64 108, .int .i64 a] w fun e w' => e = .returned (.tuple #[.slice (some ⟨w.heap.size, 0, none⟩) 2 2, .bool true]) ∧ w' = w.alloc (.cells #[.int .i64 (7), .int .i64 (wrap64 (a + 8))] 3) := by
  go_enter Tryd.func23, Tryd.ntmps23
  go_wp2
  go_ret2
  exact ⟨rfl, rfl⟩
theorem settled_108 (a b : Int) (w : World) : Calls Tryd.prog 25 #[.int .i64 108, .int .i64 a, .int .i64 b] w fun e w' => e = .returned (.tuple #[.int .i64 a, .bool true]) ∧ w' = w := by
  go_enter Tryd.func25, Tryd.ntmps25
  go_wp2
  go_ret2
  exact ⟨rfl, rfl⟩
end Go.Proofs.YtfkkmlgblhnkaaaDoor
