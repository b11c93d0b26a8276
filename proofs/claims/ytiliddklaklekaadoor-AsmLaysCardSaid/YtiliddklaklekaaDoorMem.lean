
/- Package memory: what each call does. -/
import Derived.Test.YtiliddklaklekaaDoorRows
import Derived.Test.YtiliddklaklekaaDoorBase
import Derived.Test.YtiliddklaklekaaDoorPlain03
import Derived.Test.YtiliddklaklekaaDoorBits
import Derived.WalkKit
import Derived.WalkSpells
import Derived.WalkLawsBesides
import Derived.Handy
import Derived.Lib.Hide
namespace Go.Proofs.YtiliddklaklekaaDoor
open Go.RowKit


set_option maxHeartbeats 400000 in
theorem span_ok (A : Option Addr) (n c i m : Nat) (w : World) (h1 : i + m ≤ n) (h2 : n ≤ c) (h3 : c ≤ maxLen) :
    Calls Tryd.prog 40 #[.slice A n c, .int .i64 i, .int .i64 m] w fun e w' => e = .returned (.tuple #[.slice (cutA A i m) m m, .int .i64 0]) ∧ w = w' := by
  unfold maxLen at h3
  have b1 : decide ((n : Int) - m < i) = false := by simp; omega
  by_cases hm : m = 0
  · subst hm
    go_enter Tryd.func40, Tryd.ntmps40
    go_wp2
    go_ret2
    exact ⟨rfl, rfl⟩
  · have e : cutA A i m = A.map (·.add i) := by simp [cutA, hm]
    rw [e]
    go_enter Tryd.func40, Tryd.ntmps40
    go_wp2
    go_ret2
    exact ⟨by simp, rfl⟩

set_option maxHeartbeats 400000 in
theorem span_bad (A : Option Addr) (n c : Nat) (i m : Int) (w : World) (h : i < 0 ∨ m < 0 ∨ (n : Int) < m ∨ n - m < i) (hm : m ≤ 9223372036854775807) (h2 : n ≤ c) (h3 : c ≤ maxLen) :
    Calls Tryd.prog 40 #[.slice A n c, .int .i64 i, .int .i64 m] w fun e w' => e = .returned (.tuple #[.slice none 0 0, .int .i64 (-9)]) ∧ w = w' := by
  unfold maxLen at h3
  go_enter Tryd.func40, Tryd.ntmps40
  go_wp2
  all_goals (go_ret2; exact ⟨rfl, rfl⟩)

set_option maxHeartbeats 400000 in
theorem aligned_ok (A : Option Addr) (n c i : Nat) (w : World) (h1 : i + 8 ≤ n) (h2 : n ≤ c) (h3 : c ≤ maxLen) (h8 : i % 8 = 0) :
    Calls Tryd.prog 35 #[.slice A n c, .int .i64 i] w fun e w' => e = .returned (.tuple #[.slice (cutA A i 8) 8 8, .int .i64 0]) ∧ w = w' := by
  have b2 : ((i : Int) % 8 == 0) = true := by simp; omega
  go_enter Tryd.func35, Tryd.ntmps35
  go_wp2_with (go_at_call 40; refine (span_ok A n c i 8 _ h1 h2 h3).mono ?_; rintro e w' ⟨rfl, rfl⟩)
  go_ret2
  exact ⟨rfl, rfl⟩

theorem aligned_some (ad : Addr) (n c i : Nat) (w : World) (h1 : i + 8 ≤ n) (h2 : n ≤ c) (h3 : c ≤ maxLen) (h8 : i % 8 = 0) :
    Calls Tryd.prog 35 #[.slice (some ad) n c, .int .i64 i] w fun e w' => e = .returned (.tuple #[.slice (some (ad.add i)) 8 8, .int .i64 0]) ∧ w = w' :=
  aligned_ok (some ad) n c i w h1 h2 h3 h8

set_option maxHeartbeats 400000 in
theorem aligned_mis (A : Option Addr) (n c i : Nat) (w : World) (h1 : i + 8 ≤ n) (h2 : n ≤ c) (h3 : c ≤ maxLen) (h8 : ¬ i % 8 = 0) :
    Calls Tryd.prog 35 #[.slice A n c, .int .i64 i] w fun e w' => e = .returned (.tuple #[.slice none 0 0, .int .i64 (-23)]) ∧ w = w' := by
  have b2 : ((i : Int) % 8 == 0) = false := by simp; omega
  go_enter Tryd.func35, Tryd.ntmps35
  go_wp2_with (go_at_call 40; refine (span_ok A n c i 8 _ h1 h2 h3).mono ?_; rintro e w' ⟨rfl, rfl⟩)
  all_goals (go_ret2; exact ⟨rfl, rfl⟩)

set_option maxHeartbeats 400000 in
theorem aligned_bad (A : Option Addr) (n c : Nat) (i : Int) (w : World) (h : i < 0 ∨ n - 8 < i) (h2 : n ≤ c) (h3 : c ≤ maxLen) :
    Calls Tryd.prog 35 #[.slice A n c, .int .i64 i] w fun e w' => e = .returned (.tuple #[.slice none 0 0, .int .i64 (-9)]) ∧ w = w' := by
  go_enter Tryd.func35, Tryd.ntmps35
  go_wp2_with (go_at_call 40; refine (span_bad A n c i 8 _ (by omega) (by omega) h2 h3).mono ?_; rintro e w' ⟨rfl, rfl⟩)
  go_ret2
  exact ⟨rfl, rfl⟩

/-- What memory.Cell tells. -/
def cellR (l : List Int) (i : Int) : Int := if i < 0 ∨ (l.length : Int) - 8 < i then 0 else if i % 8 = 0 then wrap64 (cellAt l i.toNat) else 0
/-- What is thrown of a cell's address. -/
def cellE (n : Nat) (i : Int) : Int := if i < 0 ∨ (n : Int) - 8 < i then -9 else if i % 8 = 0 then 0 else -23

set_option maxHeartbeats 400000 in
theorem Cell_bad (A : Option Addr) (n c : Nat) (i : Int) (w : World) (h : i < 0 ∨ n - 8 < i) (h2 : n ≤ c) (h3 : c ≤ maxLen) :
    Calls Tryd.prog 21 #[.slice A n c, .int .i64 i] w fun e w' => e = .returned (.tuple #[.int .i64 0, .int .i64 (-9)]) ∧ w = w' := by
  go_enter Tryd.func21, Tryd.ntmps21
  go_wp2_with (go_at_call 35; refine (aligned_bad A n c i _ h h2 h3).mono ?_; rintro e w' ⟨rfl, rfl⟩)
  go_rounds 1
  go_ret2
  exact ⟨rfl, rfl⟩

set_option maxHeartbeats 400000 in
theorem Cell_mis (A : Option Addr) (n c i : Nat) (w : World) (h1 : i + 8 ≤ n) (h2 : n ≤ c) (h3 : c ≤ maxLen) (h8 : ¬ i % 8 = 0) :
    Calls Tryd.prog 21 #[.slice A n c, .int .i64 i] w fun e w' => e = .returned (.tuple #[.int .i64 0, .int .i64 (-23)]) ∧ w = w' := by
  go_enter Tryd.func21, Tryd.ntmps21
  go_wp2_with (go_at_call 35; refine (aligned_mis A n c i _ h1 h2 h3 h8).mono ?_; rintro e w' ⟨rfl, rfl⟩)
  go_rounds 1
  go_ret2
  exact ⟨rfl, rfl⟩

set_option maxHeartbeats 400000 in
theorem Cell_ok (ad : Addr) (c i : Nat) (l : List Int) (w : World) (h1 : i + 8 ≤ l.length) (h2 : l.length ≤ c) (h3 : c ≤ maxLen) (h8 : i % 8 = 0)
    (hc : ∀ j, j < l.length → w.cell? (ad.add j) = some (.int .u8 (l.getD j 0))) (hb : isB l) :
    Calls Tryd.prog 21 #[.slice (some ad) l.length c, .int .i64 i] w fun e w' => e = .returned (.tuple #[.int .i64 (wrap64 (cellAt l i)), .int .i64 0]) ∧ w = w' := by
  have e8 : ((l.drop i).take 8).length = 8 := by simp; omega
  have HC : Hid (∀ j, j < 8 → w.cell? ((ad.add i).add j) = some (.int .u8 (((l.drop i).take 8).getD j 0))) := Lib.hid fun j hj => by
    rw [Addr.add_add, hc (i + j) (by omega)]
    simp [List.getD_eq_getElem?_getD, hj]
  have HB := Lib.hid (isB_take (isB_drop hb i) 8)
  unfold cellAt
  generalize (l.drop i).take 8 = b at e8 HC HB ⊢
  have E8 := Lib.hid e8
  clear hc hb e8
  go_enter Tryd.func21, Tryd.ntmps21
  go_wp2_with (go_at_call 35; refine (aligned_some ad l.length c i _ h1 h2 h3 h8).mono ?_; rintro e w' ⟨rfl, rfl⟩)
  go_loop [8, 18] (fun n i => ∃ k : Nat, k ≤ 8 ∧ i = .int .i64 k ∧ n = .int .u64 (le (b.take k))) (fun _ i => 8 - (intOf i).toNat)
  case atStart => exact ⟨0, by omega, rfl, rfl⟩
  case round =>
    obtain ⟨k, hk, rfl, rfl⟩ := hrel
    by_cases hlt : k < 8
    · have hcell := HC.out k hlt
      go_wp2
      go_round
      case rel =>
        refine ⟨k + 1, by omega, by go_num, ?_⟩
        have hl := E8.out
        have hx := le_bound _ (isB_take HB.out k)
        rw [List.length_take, hl, Nat.min_eq_left (by omega)] at hx
        have hy := isB_getD HB.out k
        rw [le_snoc (by omega)]
        rw [List.getD_eq_getElem?_getD] at hy ⊢
        rw [u64_join k hlt _ _ hx.1 hx.2 hy.1 hy.2]
      case measure => simp [intOf]; omega
    · obtain rfl : k = 8 := by omega
      go_wp2
      go_ret2
      exact ⟨by simp [List.take_of_length_le (Nat.le_of_eq E8.out)], rfl⟩
end Go.Proofs.YtiliddklaklekaaDoor
