
/- Package memory: a cell set, a byte set. -/
import Derived.Test.YtiliddklaklekaaDoorMem2
namespace Go.Proofs.YtiliddklaklekaaDoor
open Go.RowKit

/-- Memory with a cell in it. -/
def setC (l : List Int) (i v : Int) : List Int := if cellE l.length i = 0 then splice l i.toNat (bytesOf v 8) else []

set_option maxHeartbeats 1000000 in
theorem SetCell_ok (A : Option Addr) (c i : Nat) (v : Int) (l : List Int) (w : World) (h1 : i + 8 ≤ l.length) (h8 : i % 8 = 0) (hx : RdI w .u8 A c l) (hl : l.length ≤ 140737488355328) :
    Calls Tryd.prog 25 #[.slice A l.length c, .int .i64 i, .int .i64 v] w fun e w' => ∃ x, e = .returned (.tuple #[x, .int .i64 0]) ∧ w'.ownsRow w.heap.size 5 1 x l.length (nums .u8 (splice l i (bytesOf v 8))) ∧ Below w.heap.size w w' := by
  have h2 := hx.le
  have h3 := hx.cap
  have HX := Lib.hid hx
  clear hx
  go_enter Tryd.func25, Tryd.ntmps25
  go_wp2_with (go_at_call 35; refine (aligned_ok A l.length c i _ h1 h2 h3 h8).mono ?_; rintro e w' ⟨rfl, rfl⟩)
  refine wp_loop_rounds 9 ?_
  repeat any_goals (rw [rounds_succ]; go_wp2_with fail)
  refine (with_len A (some ⟨w.heap.size, 0, none⟩) c 8 i 8 l (bytesOf v 8) _ (bytesOf_length _ _) ?_ ?_ h1 hl).mono ?_
  · exact HX.out.below ((Below.refl _ _).alloc (Nat.le_refl _) _)
  · exact rd_alloc w _ _ _ _ _ _ _ (by simp only [bytesOf, nums, IntKind.wrap_u64, List.map_cons, List.map_nil, List.cons.injEq, Value.int.injEq, true_and, and_true]; omega) (by rw [nums_length, Nat.mul_one]) (by rw [bytesOf_length]; decide) (by decide)
  rintro e w1 ⟨x, rfl, hown, hbel⟩
  have HO := Lib.hid hown
  have HB := Lib.hid hbel
  clear hown hbel
  go_wp2
  go_ret2
  refine ⟨x, rfl, own_mono HO.out (by simp), ?_⟩
  exact below_two ((Below.refl _ _).alloc (Nat.le_refl _) _) HB.out

set_option maxHeartbeats 400000 in
theorem SetCell_mis (A : Option Addr) (n c i : Nat) (v : Int) (w : World) (h1 : i + 8 ≤ n) (h8 : ¬ i % 8 = 0) (h2 : n ≤ c) (h3 : c ≤ maxLen) :
    Calls Tryd.prog 25 #[.slice A n c, .int .i64 i, .int .i64 v] w fun e w' => e = .returned (.tuple #[.slice none 0 0, .int .i64 (-23)]) ∧ w = w' := by
  go_enter Tryd.func25, Tryd.ntmps25
  go_wp2_with (go_at_call 35; refine (aligned_mis A n c i _ h1 h2 h3 h8).mono ?_; rintro e w' ⟨rfl, rfl⟩)
  go_ret2
  exact ⟨rfl, rfl⟩
set_option maxHeartbeats 400000 in
theorem SetCell_bad (A : Option Addr) (n c : Nat) (i v : Int) (w : World) (h : i < 0 ∨ n - 8 < i) (h2 : n ≤ c) (h3 : c ≤ maxLen) :
    Calls Tryd.prog 25 #[.slice A n c, .int .i64 i, .int .i64 v] w fun e w' => e = .returned (.tuple #[.slice none 0 0, .int .i64 (-9)]) ∧ w = w' := by
  go_enter Tryd.func25, Tryd.ntmps25
  go_wp2_with (go_at_call 35; refine (aligned_bad A n c i _ h h2 h3).mono ?_; rintro e w' ⟨rfl, rfl⟩)
  go_ret2
  exact ⟨rfl, rfl⟩

/-- memory.SetCell, at any address. -/
theorem SetCell_any (A : Option Addr) (c : Nat) (i v : Int) (l : List Int) (w : World) (hx : RdI w .u8 A c l) (hl : l.length ≤ 140737488355328) :
    Calls Tryd.prog 25 #[.slice A l.length c, .int .i64 i, .int .i64 v] w fun e w' => ∃ x, e = .returned (.tuple #[x, .int .i64 (cellE l.length i)]) ∧ w'.ownsRow w.heap.size 5 1 x (setC l i v).length (nums .u8 (setC l i v)) ∧ Below w.heap.size w w' := by
  by_cases h : i < 0 ∨ (l.length : Int) - 8 < i
  · refine (SetCell_bad A l.length c i v w h hx.le hx.cap).mono ?_
    rintro e w' ⟨rfl, rfl⟩
    have e1 : cellE l.length i = -9 := by rw [cellE, if_pos h]
    exact ⟨_, by rw [e1], by rw [setC, e1]; exact ⟨by simp [nums], .inl ⟨rfl, rfl⟩⟩, Below.refl _ _⟩
  · obtain ⟨k, rfl⟩ := Int.eq_ofNat_of_zero_le (show 0 ≤ i by omega)
    by_cases h8 : k % 8 = 0
    · refine (SetCell_ok A c k v l w (by omega) h8 hx hl).mono ?_
      rintro e w' ⟨x, rfl, ho, hb⟩
      have e1 : cellE l.length k = 0 := by rw [cellE, if_neg h, if_pos (by omega)]
      refine ⟨x, by rw [e1], ?_, hb⟩
      rw [setC, e1, if_pos rfl, length_splice _ _ _ (by rw [bytesOf_length]; omega)]
      exact ho
    · refine (SetCell_mis A l.length c k v w (by omega) h8 hx.le hx.cap).mono ?_
      rintro e w' ⟨rfl, rfl⟩
      have e1 : cellE l.length k = -23 := by rw [cellE, if_neg h, if_neg (by omega)]
      exact ⟨_, by rw [e1], by rw [setC, e1]; exact ⟨by simp [nums], .inl ⟨rfl, rfl⟩⟩, Below.refl _ _⟩

/-- memory.Cell, at any address. -/
theorem Cell_any (A : Option Addr) (c : Nat) (i : Int) (l : List Int) (w : World) (hx : RdI w .u8 A c l) (hb : isB l) :
    Calls Tryd.prog 21 #[.slice A l.length c, .int .i64 i] w fun e w' => e = .returned (.tuple #[.int .i64 (cellR l i), .int .i64 (cellE l.length i)]) ∧ w = w' := by
  by_cases h : i < 0 ∨ (l.length : Int) - 8 < i
  · rw [cellR, cellE, if_pos h, if_pos h]
    exact Cell_bad A l.length c i w h hx.le hx.cap
  · obtain ⟨k, rfl⟩ := Int.eq_ofNat_of_zero_le (show 0 ≤ i by omega)
    rw [cellR, cellE, if_neg h, if_neg h]
    by_cases h8 : k % 8 = 0
    · rw [if_pos (by omega), if_pos (by omega)]
      obtain ⟨ad, rfl, hc⟩ := hx.all (by omega)
      exact Cell_ok ad c k l w (by omega) hx.le hx.cap h8 hc hb
    · rw [if_neg (by omega), if_neg (by omega)]
      exact Cell_mis A l.length c k w (by omega) hx.le hx.cap h8

/-- What memory.Byte tells, and what is thrown. -/
def byteR (l : List Int) (i : Int) : Int := if i < 0 ∨ (l.length : Int) ≤ i then 0 else l.getD i.toNat 0
def byteE (n : Nat) (i : Int) : Int := if i < 0 ∨ (n : Int) ≤ i then -9 else 0
def setB (l : List Int) (i v : Int) : List Int := if byteE l.length i = 0 then splice l i.toNat [v % 256] else []

/-- What memory.Bytes tells, and what is thrown. -/
def bytesE (n : Nat) (i m : Int) : Int := if i < 0 ∨ m < 0 ∨ (n : Int) < m ∨ n - m < i then -9 else 0
def bytesR (l : List Int) (i m : Int) : List Int := if bytesE l.length i m = 0 then (l.drop i.toNat).take m.toNat else []

end Go.Proofs.YtiliddklaklekaaDoor
