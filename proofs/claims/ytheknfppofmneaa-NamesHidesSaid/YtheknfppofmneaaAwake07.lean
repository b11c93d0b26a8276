/- nostoslaw07: awake. -/
import Derived.Test.YtheknfppofmneaaFind2
namespace Go.Proofs.Ytheknfppofmneaa
open Go.RowKit

theorem Fold_is (s t : ByteArray) (w : World) (ht : foldB s = t) (hs : s.size ≤ 140737488355327) :
    Calls Try.prog 9 #[.string s] w fun e w' => e = .returned (.string t) ∧ Below w.heap.size w w' := by
  subst ht
  exact Fold_any s w hs
theorem May_is (s : ByteArray) (r : Int) (w : World) (hr : mayN s.size = r) (hs : s.size ≤ maxLen) :
    Calls Try.prog 11 #[.string s] w fun e w' => e = .returned (.int .i64 r) ∧ w = w' := by
  subst hr
  exact May_any s w hs
theorem Find_is (A : Option Addr) (c n : Nat) (l : List Wd) (name : ByteArray) (r : Int) (w : World) (hn : l.length = n) (hr : findN l (foldB name) = r) (hx : RdW w A c l) (hc : n ≤ 1000000) (hs : ∀ x ∈ l, x.nm.size ≤ 140737488355327) (hl : name.size ≤ 140737488355327) :
    Calls Try.prog 14 #[.slice A n c, .string name] w fun e w' => e = .returned (.int .i64 r) ∧ Below w.heap.size w w' := by
  subst hn hr
  exact Find_any A c l name w hx hc hs hl

def wdA : List Wd := [⟨⟨#[97]⟩, 0, false, false⟩, ⟨⟨#[65]⟩, 0, false, true⟩, ⟨⟨#[98]⟩, 0, false, false⟩]
set_option maxHeartbeats 1000000 in
set_option maxRecDepth 100000 in
theorem awake_any (w : World) : Calls Try.prog 8 #[] w fun e w' => e = .returned (.bool true) ∧ Below w.heap.size w w' := by
  go_enter Try.func8, Try.ntmps8
  go_wp2_with fail
  have hx : RdW (w.alloc (.cells #[.string ⟨#[97]⟩, .int .i64 0, .bool false, .bool false, .string ⟨#[65]⟩, .int .i64 0, .bool false, .bool true, .string ⟨#[98]⟩, .int .i64 0, .bool false, .bool false] 31)) (some ⟨w.heap.size, 0, none⟩) 3 wdA :=
    rd_alloc w (wcells wdA) _ 31 (0, 0) 3 3 4 rfl rfl (by decide) (by decide)
  have HX := Lib.hid hx
  have HB := Lib.hid (below_lit w (.cells #[.string ⟨#[97]⟩, .int .i64 0, .bool false, .bool false, .string ⟨#[65]⟩, .int .i64 0, .bool false, .bool true, .string ⟨#[98]⟩, .int .i64 0, .bool false, .bool false] 31))
  clear hx
  refine (Fold_is ⟨#[97, 49, 98]⟩ ⟨#[65, 49, 66]⟩ _ (by decide +kernel) (by decide)).mono ?_
  rintro e w1 ⟨rfl, hb⟩
  (replace HX := Lib.hid (Rd.below (Hid.out HX) hb))
  have HB := Lib.hid (below_two HB.out hb)
  clear hb
  have hw : ∀ x ∈ wdA, x.nm.size ≤ 140737488355327 := by
    intro x hx
    simp [wdA] at hx
    rcases hx with rfl | rfl | rfl <;> decide
  have HW := Lib.hid hw
  clear hw
  go_wp2_with (go_at_call 11; (first
    | (with_reducible refine (May_is ⟨#[]⟩ (-16) _ (by decide) (by decide)).mono ?_)
    | (with_reducible refine (May_is ⟨#[120]⟩ 0 _ (by decide) (by decide)).mono ?_)); rintro e w' ⟨rfl, rfl⟩)
  refine (Find_is _ 3 3 wdA ⟨#[65]⟩ 0 w1 rfl (by decide +kernel) HX.out (by decide) HW.out (by decide)).mono ?_
  rintro e w2 ⟨rfl, hb⟩
  (replace HX := Lib.hid (Rd.below (Hid.out HX) hb))
  have HB := Lib.hid (below_two HB.out hb)
  clear hb
  go_wp2_with fail
  refine (Find_is _ 3 3 wdA ⟨#[66]⟩ 2 w2 rfl (by decide +kernel) HX.out (by decide) HW.out (by decide)).mono ?_
  rintro e w3 ⟨rfl, hb⟩
  (replace HX := Lib.hid (Rd.below (Hid.out HX) hb))
  have HB := Lib.hid (below_two HB.out hb)
  clear hb
  go_wp2_with fail
  refine (Find_is _ 3 3 wdA ⟨#[99]⟩ (-1) w3 rfl (by decide +kernel) HX.out (by decide) HW.out (by decide)).mono ?_
  rintro e w4 ⟨rfl, hb⟩
  have HB := Lib.hid (below_two HB.out hb)
  clear hb
  go_wp2
  go_ret
  exact ⟨rfl, HB.out⟩
end Go.Proofs.Ytheknfppofmneaa
