/- nostoslaw06: awake. -/
import Derived.Test.YtgpcjfogmakfaaaRef06
namespace Go.Proofs.Ytgpcjfogmakfaaa
open Go.RowKit

theorem Token_is (s : ByteArray) (i : Int) (w : World) (t : ByteArray) (a b : Int) (ht : s.extract (tokA s i) (tokB s i) = t) (ha : (tokA s i : Int) = a) (hb : (tokB s i : Int) = b) (hs : s.size ≤ maxLen) :
    Calls Try.prog 9 #[.string s, .int .i64 i] w fun e w' => e = .returned (.tuple #[.string t, .int .i64 a, .int .i64 b]) ∧ Below w.heap.size w w' := by
  subst ht ha hb
  exact Token_any s i w hs
theorem Until_is (s : ByteArray) (i c : Int) (w : World) (t : ByteArray) (b : Int) (ht : untilS s i c = t) (hb : (behind s (untilB s i c) : Int) = b) (hs : s.size ≤ maxLen) (hc0 : 0 ≤ c) (hc1 : c < 256) :
    Calls Try.prog 11 #[.string s, .int .i64 i, .int .u8 c] w fun e w' => e = .returned (.tuple #[.string t, .int .i64 b]) ∧ Below w.heap.size w w' := by
  subst ht hb
  exact Until_any s i c w hs hc0 hc1
theorem Line_is (s : ByteArray) (i : Int) (w : World) (b : Int) (hb : (lineR s i : Int) = b) (hs : s.size ≤ maxLen) :
    Calls Try.prog 13 #[.string s, .int .i64 i] w fun e w' => e = .returned (.int .i64 b) ∧ Below w.heap.size w w' := by
  subst hb
  exact Line_any s i w hs
theorem Place_is (s : ByteArray) (i : Int) (w : World) (a b : Int) (ha : (lineOf s (bound s i) : Int) = a) (hb : colOf s (bound s i) = b) (hs : s.size ≤ 1000000) :
    Calls Try.prog 15 #[.string s, .int .i64 i] w fun e w' => e = .returned (.tuple #[.int .i64 a, .int .i64 b]) ∧ Below w.heap.size w w' := by
  subst ha hb
  exact Place_any s i w hs

set_option maxHeartbeats 1000000 in
theorem awake_any (w : World) : Calls Try.prog 8 #[] w fun e w' => e = .returned (.bool true) ∧ Below w.heap.size w w' := by
  go_enter Try.func8, Try.ntmps8
  go_wp2_with fail
  refine (Token_is ⟨#[32, 97, 98, 10, 99]⟩ 0 _ ⟨#[97, 98]⟩ 1 3 (by decide +kernel) (by decide +kernel) (by decide +kernel) (by decide)).mono ?_
  rintro e w1 ⟨rfl, h1⟩
  have H1 := Lib.hid h1
  clear h1
  go_wp2_with fail
  refine (Until_is ⟨#[32, 97, 41, 32, 98]⟩ 0 41 _ ⟨#[97]⟩ 3 (by decide +kernel) (by decide +kernel) (by decide) (by decide) (by decide)).mono ?_
  rintro e w2 ⟨rfl, h1⟩
  have H2 := Lib.hid (below_two H1.out h1)
  clear h1 H1
  go_wp2_with fail
  refine (Place_is ⟨#[97, 10, 98, 99]⟩ 3 _ 2 2 (by decide +kernel) (by decide +kernel) (by decide)).mono ?_
  rintro e w3 ⟨rfl, h1⟩
  have H3 := Lib.hid (below_two H2.out h1)
  clear h1 H2
  go_wp2_with fail
  refine (Line_is ⟨#[97, 10, 98]⟩ 0 _ 2 (by decide +kernel) (by decide)).mono ?_
  rintro e w4 ⟨rfl, h1⟩
  have H4 := Lib.hid (below_two H3.out h1)
  clear h1 H3
  go_wp2
  go_ret
  exact ⟨rfl, H4.out⟩
end Go.Proofs.Ytgpcjfogmakfaaa
