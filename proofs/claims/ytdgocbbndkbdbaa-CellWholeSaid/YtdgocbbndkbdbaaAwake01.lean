/- nostoslaw01: awake; cell.Scale at the one product that it asks for. -/
import Derived.Test.YtdgocbbndkbdbaaCell
namespace Go.Proofs.Ytdgocbbndkbdbaa
open Go.RowKit

theorem size_any (a : Int) (w : World) (h0 : -9223372036854775808 ≤ a) (h1 : a ≤ 9223372036854775807) :
    Calls Try.prog 22 #[.int .i64 a] w fun e w' => e = .returned (.int .u64 (a.natAbs : Nat)) ∧ w = w' := by
  by_cases h : a < 0
  · have e : IntKind.u64.wrap (-IntKind.u64.wrap a) = (a.natAbs : Nat) := by rw [u64_wrap, u64_wrap]; unfold u64; omega
    go_enter Try.func22, Try.ntmps22
    go_wp2
    go_ret
    exact ⟨rfl, rfl⟩
  · have e : IntKind.u64.wrap a = (a.natAbs : Nat) := by rw [u64_wrap]; unfold u64; omega
    rw [← e]
    go_enter Try.func22, Try.ntmps22
    go_wp2
    go_ret
    exact ⟨rfl, rfl⟩

set_option maxHeartbeats 1000000 in
set_option maxRecDepth 100000 in
theorem Mul64_one (w : World) :
    Calls Try.prog 21 #[.int .u64 4611686018427387904, .int .u64 4] w fun e w' => e = .returned (.tuple #[.int .u64 1, .int .u64 0]) ∧ w = w' := by
  go_enter Try.func21, Try.ntmps21
  go_wp2
  go_ret2
  exact ⟨rfl, rfl⟩

set_option maxHeartbeats 1000000 in
set_option maxRecDepth 100000 in
theorem Lz_8 (w : World) :
    Calls Try.prog 28 #[.int .u64 8] w fun e w' => e = .returned (.int .i64 60) ∧ w = w' := by
  go_enter Try.func28, Try.ntmps28
  go_wp2
  go_ret
  exact ⟨by kernel_rfl, rfl⟩

set_option maxHeartbeats 1000000 in
set_option maxRecDepth 100000 in
theorem Div64_one (w : World) :
    Calls Try.prog 23 #[.int .u64 1, .int .u64 0, .int .u64 8] w fun e w' => e = .returned (.tuple #[.int .u64 2305843009213693952, .int .u64 0]) ∧ w = w' := by
  go_enter Try.func23, Try.ntmps23
  go_wp2_with fail
  refine (Lz_8 _).mono ?_
  rintro e w' ⟨rfl, rfl⟩
  go_wp2
  go_loop [15, 16] (fun x r => x = .int .u64 536870912 ∧ r = .int .u64 0) (fun _ _ => 0)
  case atStart => exact ⟨by kernel_rfl, by kernel_rfl⟩
  case round =>
    obtain ⟨rfl, rfl⟩ := hrel
    go_wp2
    go_loop [16, 18] (fun r x => x = .int .u64 0 ∧ r = .int .u64 0) (fun _ _ => 0)
    case atStart => exact ⟨by kernel_rfl, by kernel_rfl⟩
    case round =>
      obtain ⟨rfl, rfl⟩ := hrel
      go_wp2
      go_ret2
      exact ⟨by kernel_rfl, rfl⟩

/-- Scale's closure. -/
def roundC (below : Bool) (q r c : Int) : Int × Int × Bool := if below && r != 0 then (IntKind.u64.wrap (q + 1), IntKind.u64.wrap (c - r), q != 18446744073709551615) else (q, r, true)
set_option maxHeartbeats 1000000 in
theorem round_any (bl : Bool) (q r c : Int) (a1 a2 a3 a4 : Addr) (w : World) (h1 : w.cell? a1 = some (.bool bl)) (h2 : w.cell? a2 = some (.int .u64 r)) (h3 : w.cell? a3 = some (.int .u64 q)) (h4 : w.cell? a4 = some (.int .u64 c)) (x y : Int) (ok : Bool) (h : roundC bl q r c = (x, y, ok)) :
    Calls Try.prog 24 #[.pointer (some a1), .pointer (some a2), .pointer (some a3), .pointer (some a4)] w fun e w' => e = .returned (.tuple #[.int .u64 x, .int .u64 y, .bool ok]) ∧ Below w.heap.size w w' := by
  unfold roundC at h
  cases bl with
  | false =>
    rw [Bool.false_and, if_neg (by decide)] at h
    injection h with e1 h
    injection h with e2 e3
    subst e1 e2 e3
    go_enter Try.func24, Try.ntmps24
    go_wp2_with fail
    go_quiet (fail)
    go_wp2
    go_ret3
    exact ⟨rfl, below_drewN _ _⟩
  | true =>
    rw [Bool.true_and] at h
    by_cases hr : r = 0
    · subst hr
      rw [if_neg (by decide)] at h
      injection h with e1 h
      injection h with e2 e3
      subst e1 e2 e3
      go_enter Try.func24, Try.ntmps24
      go_wp2_with fail
      go_quiet (fail)
      go_wp2
      go_ret3
      exact ⟨rfl, below_drewN _ _⟩
    · have hr2 : (r != 0) = true := by simpa using hr
      rw [if_pos hr2] at h
      injection h with e1 h
      injection h with e2 e3
      subst e1 e2 e3
      go_enter Try.func24, Try.ntmps24
      go_wp2_with fail
      go_quiet (fail)
      go_wp2
      go_ret3
      exact ⟨rfl, below_drewN _ _⟩

set_option maxHeartbeats 1000000 in
set_option maxRecDepth 100000 in
theorem Scale_one (w : World) :
    Calls Try.prog 15 #[.int .i64 4611686018427387904, .int .i64 4, .int .i64 8] w fun e w' => e = .returned (.tuple #[.int .i64 2305843009213693952, .int .i64 0, .bool true]) ∧ Below w.heap.size w w' := by
  have hmf : ∀ (fn : Fn) (first cap : Array Value) (w : World), (Instr.makeFunc fn first cap).run Try.prog w = .ok (.func fn first cap) w := fun _ _ _ _ => rfl
  go_enter Try.func15, Try.ntmps15
  go_wp2_with fail
  refine (size_any _ _ (by decide) (by decide)).mono ?_
  rintro e w' ⟨rfl, rfl⟩
  go_wp2_with fail
  refine (size_any _ _ (by decide) (by decide)).mono ?_
  rintro e w' ⟨rfl, rfl⟩
  go_wp2_with fail
  refine (Mul64_one _).mono ?_
  rintro e w' ⟨rfl, rfl⟩
  go_wp2_with fail
  refine (size_any _ _ (by decide) (by decide)).mono ?_
  rintro e w' ⟨rfl, rfl⟩
  go_wp2_with fail
  refine (Div64_one _).mono ?_
  rintro e w' ⟨rfl, rfl⟩
  go_wp2_with fail
  have hc : (((((w.alloc (Obj.cells #[Value.int IntKind.u64 1, Value.int IntKind.u64 0] 33)).alloc (Obj.cells #[Value.int IntKind.u64 8] 32)).alloc (Obj.cells #[Value.int IntKind.u64 2305843009213693952] 32)).alloc (Obj.cells #[Value.int IntKind.u64 0] 32)).alloc (Obj.cells #[Value.bool false] 4)).cell? ⟨w.heap.size + 1 + 1 + 1 + 1, 0, none⟩ = some (.bool false) := by go_simp
  refine (round_any false 2305843009213693952 0 8 _ _ _ _ _ hc (by go_simp) (by go_simp) (by go_simp) 2305843009213693952 0 true (by decide)).mono ?_
  rintro e w2 ⟨rfl, hb⟩
  have hc2 := (hb.cell (World.block_lt_of_cell? _ _ hc)).trans hc
  have HB := Lib.hid (below_two (below_two (below_two (below_two (below_two (below_lit w _) (below_lit _ _)) (below_lit _ _)) (below_lit _ _)) (below_lit _ _)) hb)
  clear hb hc
  go_wp2
  go_ret3
  exact ⟨rfl, HB.out⟩

set_option maxHeartbeats 1000000 in
set_option maxRecDepth 100000 in
theorem awake_any (w : World) : Calls Try.prog 8 #[] w fun e w' => e = .returned (.bool true) ∧ Below w.heap.size w w' := by
  go_enter Try.func8, Try.ntmps8
  go_wp2_with fail
  refine (Div_any (-7) 2 w (by decide) (by decide) (by decide) (by decide) (-4) 1 true (by decide)).mono ?_
  rintro e w1 ⟨rfl, hb⟩
  have HB := Lib.hid hb
  clear hb
  go_wp2_with fail
  refine (Scale_one _).mono ?_
  rintro e w2 ⟨rfl, hb⟩
  have HB := Lib.hid (below_two HB.out hb)
  clear hb
  go_wp2_with fail
  refine (Flag_any true _).mono ?_
  rintro e w' ⟨rfl, rfl⟩
  go_wp2_with fail
  refine (Below_any 1 (-1) _).mono ?_
  rintro e w' ⟨rfl, rfl⟩
  have e1 : belowC 1 (-1) = true := by decide +kernel
  rw [e1]
  clear e1
  go_wp2_with fail
  refine (Within_any 3 3 5 _).mono ?_
  rintro e w' ⟨rfl, rfl⟩
  have e1 : belowC (wrap64 (3 - 3)) (wrap64 (5 - 3)) = true := by decide +kernel
  rw [e1]
  clear e1
  go_wp2_with fail
  refine (Left_any 3 2 _).mono ?_
  rintro e w' ⟨rfl, rfl⟩
  have e1 : leftC 3 2 = 12 := by decide +kernel
  rw [e1]
  clear e1
  go_wp2_with fail
  refine (Right_any (-1) 63 _).mono ?_
  rintro e w' ⟨rfl, rfl⟩
  have e1 : rightC (-1) 63 = 1 := by decide +kernel
  rw [e1]
  clear e1
  go_wp2
  go_ret
  exact ⟨rfl, HB.out⟩
end Go.Proofs.Ytdgocbbndkbdbaa
