/- The walks of NamesFolds, NamesFinds, NamesLess. -/
import Derived.Test.YtheknfppofmneaaAwake07
namespace Go.Proofs.Ytheknfppofmneaa
open Go.RowKit

set_option maxHeartbeats 1000000 in
set_option maxRecDepth 100000 in
theorem NamesFolds_walk (s : ByteArray) (w : World) (hs : s.size ≤ maxLen) :
    Calls Try.prog 3 #[.string s] w fun e w' => e = .returned (.bool true) ∧ Below w.heap.size w w' := by
  have h63 := hs
  unfold maxLen at h63
  go_enter Try.func3, Try.ntmps3
  go_wp2_with fail
  refine (awake_any w).mono ?_
  rintro e w1 ⟨rfl, hb⟩
  have HB := Lib.hid hb
  clear hb
  by_cases h100 : 100 < s.size
  · go_wp2
    go_ret
    exact ⟨rfl, HB.out⟩
  have hfs := foldB_size s
  have hft := foldB_twice s
  go_wp2_with fail
  refine (Fold_any s _ (by omega)).mono ?_
  rintro e w2 ⟨rfl, hb⟩
  have HB := Lib.hid (below_two HB.out hb)
  clear hb
  go_wp2_with fail
  refine (RFold_any s _ (by omega)).mono ?_
  rintro e w3 ⟨rfl, hb⟩
  have HB := Lib.hid (below_two HB.out hb)
  clear hb
  go_wp2_with fail
  refine (Fold_is (foldB s) (foldB s) _ hft (by omega)).mono ?_
  rintro e w4 ⟨rfl, hb⟩
  have HB := Lib.hid (below_two HB.out hb)
  clear hb
  obtain ⟨f, hf⟩ : ∃ f, foldB s = f := ⟨_, rfl⟩
  rw [hf] at hfs ⊢
  clear hft hf
  go_wp2_with fail
  refine (May_is s _ _ rfl hs).mono ?_
  rintro e w' ⟨rfl, rfl⟩
  go_wp2_with fail
  refine (RMay_any s _ hs).mono ?_
  rintro e w' ⟨rfl, rfl⟩
  go_wp2_with fail
  refine (May_is f (mayN s.size) _ (by rw [hfs]) (by rw [hfs]; exact hs)).mono ?_
  rintro e w' ⟨rfl, rfl⟩
  go_wp2_with fail
  refine (May_is s _ _ rfl hs).mono ?_
  rintro e w' ⟨rfl, rfl⟩
  go_wp2
  go_ret
  exact ⟨rfl, HB.out⟩

theorem isW_twice (n : ByteArray) : isW (foldB (foldB n)) = isW (foldB n) := by rw [foldB_twice]
theorem findN_lt (l : List Wd) (f : ByteArray) : findN l f < l.length := by
  unfold findN
  omega

set_option maxHeartbeats 1000000 in
set_option maxRecDepth 100000 in
theorem NamesFinds_walk (A : Option Addr) (c : Nat) (l : List Wd) (name : ByteArray) (w : World) (hx : RdW w A c l) (hn : name.size ≤ maxLen) :
    Calls Try.prog 4 #[.slice A l.length c, .string name] w fun e w' => e = .returned (.bool true) ∧ Below w.heap.size w w' := by
  have h63 := hn
  unfold maxLen at h63
  have HX := Lib.hid hx
  clear hx
  go_enter Try.func4, Try.ntmps4
  go_wp2_with fail
  refine (awake_any w).mono ?_
  rintro e w1 ⟨rfl, hb⟩
  (replace HX := Lib.hid (Rd.below (Hid.out HX) hb))
  have HB := Lib.hid hb
  clear hb
  go_wp2_with fail
  cases hfe : fewW l with
  | false =>
    refine (Few_any A c l false _ hfe HX.out).mono ?_
    rintro e w' ⟨rfl, rfl⟩
    go_wp2
    go_ret
    exact ⟨rfl, HB.out⟩
  | true =>
    refine (Few_any A c l true _ hfe HX.out).mono ?_
    rintro e w' ⟨rfl, rfl⟩
    obtain ⟨h30, h60⟩ := fewW_yes hfe
    have HS : Hid (∀ x ∈ l, x.nm.size ≤ 140737488355327) := Lib.hid (fun x hx => by have := h60 x hx; omega)
    clear h60
    by_cases hl : 60 < name.size
    · go_wp2
      go_ret
      exact ⟨rfl, HB.out⟩
    have hlt := findN_lt l (foldB name)
    obtain ⟨r, hr⟩ : ∃ r, findN l (foldB name) = r := ⟨_, rfl⟩
    have HR := Lib.hid hr
    rw [hr] at hlt
    clear hr
    go_wp2_with fail
    refine (Find_is A c l.length l name r _ rfl HR.out HX.out (by omega) HS.out (by omega)).mono ?_
    rintro e w2 ⟨rfl, hb⟩
    (replace HX := Lib.hid (Rd.below (Hid.out HX) hb))
    have HB := Lib.hid (below_two HB.out hb)
    clear hb
    go_wp2_with fail
    have hrf := RFind_any A c l name w2 HX.out (by omega) HS.out (by omega)
    rw [HR.out] at hrf
    refine hrf.mono ?_
    rintro e w3 ⟨rfl, hb⟩
    (replace HX := Lib.hid (Rd.below (Hid.out HX) hb))
    have HB := Lib.hid (below_two HB.out hb)
    clear hb hrf
    go_wp2_with fail
    refine (Fold_any name _ (by omega)).mono ?_
    rintro e w4 ⟨rfl, hb⟩
    (replace HX := Lib.hid (Rd.below (Hid.out HX) hb))
    have HB := Lib.hid (below_two HB.out hb)
    clear hb
    go_wp2_with fail
    refine (Find_is A c l.length l (foldB name) r _ rfl (by rw [foldB_twice]; exact HR.out) HX.out (by omega) HS.out (by rw [foldB_size]; omega)).mono ?_
    rintro e w5 ⟨rfl, hb⟩
    have HB := Lib.hid (below_two HB.out hb)
    clear hb
    go_wp2
    go_ret
    exact ⟨rfl, HB.out⟩
end Go.Proofs.Ytheknfppofmneaa
