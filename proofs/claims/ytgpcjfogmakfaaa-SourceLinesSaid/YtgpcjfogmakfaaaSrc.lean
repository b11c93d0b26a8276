/- Package source: what each call does. -/
import Derived.Test.YtgpcjfogmakfaaaRows
import Derived.Test.YtgpcjfogmakfaaaPlain06
import Derived.Test.YtgpcjfogmakfaaaBase
import Derived.WalkKit
import Derived.WalkSpells
import Derived.WalkLawsBesides
import Derived.Handy
import Derived.WalkMore
import Derived.Deep.LoopGhost
import Derived.Lib.Hide
import Derived.Test.YtgpcjfogmakfaaaStrIdx
namespace Go.Proofs.Ytgpcjfogmakfaaa
open Go.RowKit

theorem ret_int {k : IntKind} {a b : Int} (h : a = b) : Ending.returned (.int k a) = .returned (.int k b) := by rw [h]
theorem ret_bool {a b : Bool} (h : a = b) : Ending.returned (.bool a) = .returned (.bool b) := by rw [h]
theorem ret_str_int {k : IntKind} {s t : ByteArray} {a b : Int} (h1 : s = t) (h : a = b) : Ending.returned (.tuple #[.string s, .int k a]) = .returned (.tuple #[.string t, .int k b]) := by rw [h, h1]

set_option maxHeartbeats 400000 in
theorem rest1_any (p q : Addr) (s : ByteArray) (i : Int) (k : Nat) (w : World) (hk : bound s i = k) (hs : s.size ≤ maxLen) (hp : w.cell? p = some (.int .i64 i)) (hq : w.cell? q = some (.string s)) :
    Calls Try.prog 20 #[.pointer (some p), .pointer (some q)] w fun e w' => e = .returned (.int .i64 k) ∧ w = w' := by
  unfold maxLen at hs
  have hk' : (k : Int) = if (if i < 0 then 0 else i) ≤ s.size then (if i < 0 then 0 else i) else s.size := by
    rw [← hk]
    unfold bound
    omega
  have HK := Lib.hid hk'
  clear hk hk'
  go_enter Try.func20, Try.ntmps20
  go_wp2
  all_goals
    go_ret
    have hq := HK.out
    exact ⟨ret_int (by omega), rfl⟩

set_option maxHeartbeats 400000 in
theorem rest_any (s : ByteArray) (i : Int) (w : World) (hs : s.size ≤ maxLen) :
    Calls Try.prog 18 #[.string s, .int .i64 i] w fun e w' => e = .returned (.tuple #[.string (s.extract (bound s i) s.size), .int .i64 (bound s i)]) ∧ Below w.heap.size w w' := by
  have hmf : ∀ (fn : Fn) (first cap : Array Value) (w : World), (Instr.makeFunc fn first cap).run Try.prog w = .ok (.func fn first cap) w := fun _ _ _ _ => rfl
  have hbd := bound_le s i
  have h63 := hs
  unfold maxLen at h63
  obtain ⟨k, hk⟩ : ∃ k, bound s i = k := ⟨_, rfl⟩
  rw [hk] at hbd ⊢
  have HK := Lib.hid hk
  clear hk
  go_enter Try.func18, Try.ntmps18
  go_wp2_with fail
  refine (rest1_any _ _ s i k _ HK.out hs (by simp [go_sem]) (by simp [go_sem])).mono ?_
  rintro e w' ⟨rfl, rfl⟩
  go_wp2
  go_ret2
  exact ⟨rfl, ((Below.refl _ _).alloc (Nat.le_refl _) _).alloc (by simp) _⟩

set_option maxHeartbeats 1000000 in
theorem Token_any (s : ByteArray) (i : Int) (w : World) (hs : s.size ≤ maxLen) :
    Calls Try.prog 9 #[.string s, .int .i64 i] w fun e w' => e = .returned (.tuple #[.string (s.extract (tokA s i) (tokB s i)), .int .i64 (tokA s i), .int .i64 (tokB s i)]) ∧ Below w.heap.size w w' := by
  have h63 := hs
  unfold maxLen at h63
  go_enter Try.func9, Try.ntmps9
  go_wp2
  go_step3
  go_wp2_with fail
  refine (rest_any s i _ hs).mono ?_
  rintro e w1 ⟨rfl, hb1⟩
  have HB := Lib.hid hb1
  clear hb1
  go_wp2
  go_loop [8] (fun n => ∃ k : Nat, n = .int .i64 k ∧ k ≤ s.size ∧ Hid (skip isBlank s k = skip isBlank s (bound s i))) (fun n => s.size - (intOf n).toNat)
  case atStart => exact ⟨_, rfl, bound_le _ _, Lib.hid rfl⟩
  case round =>
    obtain ⟨k, rfl, hk, HS⟩ := hrel
    by_cases hc : k < s.size ∧ bt s k ≤ 32
    · obtain ⟨hlt, hp⟩ := hc
      have hg := get_bt s k hlt
      have hr := bt_range s k
      go_wp2
      go_round
      case rel => exact ⟨k + 1, by go_num, by omega, Lib.hid (by rw [← HS.out]; exact (skip_yes hlt (by simp [isBlank, hp])).symm)⟩
      case measure => simp [intOf] <;> omega
    · have HT : Hid (tokA s i = k) := Lib.hid (by
        rw [tokA, ← HS.out]
        by_cases hlt : k < s.size
        · exact skip_no hlt (by simp [isBlank]; omega)
        · exact skip_end hlt)
      have hg := get_bt s k
      have HG := Lib.hid hg
      clear hg
      by_cases hlt : k < s.size
      all_goals
        (try have hg := HG.out hlt)
        have hr := bt_range s k
        (try have hp : ¬ bt s k ≤ 32 := fun h => hc ⟨hlt, h⟩)
        clear hc
        go_wp2
        go_step3
        (try clear hg)
        (try clear hp)
        clear hr HG
        go_wp2
        go_loop [9] (fun n => ∃ m : Nat, n = .int .i64 m ∧ k ≤ m ∧ m ≤ s.size ∧ Hid (skip notBlank s m = skip notBlank s k)) (fun n => s.size - (intOf n).toNat)
        case atStart => exact ⟨_, rfl, Nat.le_refl _, hk, Lib.hid rfl⟩
        case round =>
          obtain ⟨m, rfl, hm1, hm2, HM⟩ := hrel
          by_cases hlt2 : m < s.size
          · have hg := get_bt s m hlt2
            have hr := bt_range s m
            by_cases hp2 : bt s m ≤ 32
            · have HB2 : Hid (tokB s i = m) := Lib.hid (by rw [tokB, HT.out, ← HM.out]; exact skip_no hlt2 (by simp [notBlank]; omega))
              go_wp2
              go_ret3
              rw [HT.out, HB2.out]
              exact ⟨rfl, HB.out⟩
            · go_wp2
              go_round
              case rel => exact ⟨m + 1, by go_num, by omega, by omega, Lib.hid (by rw [← HM.out]; exact (skip_yes hlt2 (by simp [notBlank]; omega)).symm)⟩
              case measure => simp [intOf] <;> omega
          · have HB2 : Hid (tokB s i = m) := Lib.hid (by rw [tokB, HT.out, ← HM.out]; exact skip_end hlt2)
            go_wp2
            go_ret3
            rw [HT.out, HB2.out]
            exact ⟨rfl, HB.out⟩
end Go.Proofs.Ytgpcjfogmakfaaa
