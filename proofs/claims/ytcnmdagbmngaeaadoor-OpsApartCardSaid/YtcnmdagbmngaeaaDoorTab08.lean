/- ops.table, ops.Find. -/
import Derived.Maps.OwnOps
import Derived.Maps.Views
import Derived.StringKeys
import Derived.Test.YtcnmdagbmngaeaaDoorOps08
namespace Go.Proofs.YtcnmdagbmngaeaaDoor
open Go.RowKit Go.Maps Go.WideMaps

def key (s : ByteArray) : Lit := .string s.data.toList
theorem key_ne {a b : ByteArray} (h : a ≠ b) : key a ≠ key b := by
  intro e
  apply h
  simp only [key, Lit.string.injEq] at e
  apply ByteArray.ext
  exact Array.toList_inj.1 e
/-- The table after so many rounds. -/
def tabD : Nat → DataW Unit
  | 0 => .map []
  | k + 1 => (tabD k).put (key (nm k)) (.lit (.int .i64 ((k : Int) + 1)))
theorem tabD_map : ∀ k, IsMap (tabD k)
  | 0 => ⟨[], rfl⟩
  | k + 1 => by
    obtain ⟨es, h⟩ := tabD_map k
    rw [tabD, h]
    exact ⟨_, rfl⟩
theorem tabD_at (f : ByteArray) : ∀ k, k ≤ 137 → (tabD k).atKey (key f) (.lit (.int .i64 0)) = .lit (.int .i64 (if nmIdx f < k then (nmIdx f : Int) + 1 else 0))
  | 0, _ => by
    rw [if_neg (by omega)]
    rfl
  | k + 1, hk => by
    rw [tabD]
    by_cases h : f = nm k
    · subst h
      rw [atKey_put_same (tabD_map k) (by trivial), nm_idx k (by omega), if_pos (by omega)]
    · rw [atKey_put_other (key_ne h), tabD_at f k (by omega)]
      have : nmIdx f ≠ k := by
        intro e
        have := nmIdx_at (f := f) (by omega)
        rw [e] at this
        exact h this.symm
      by_cases h2 : nmIdx f < k
      · rw [if_pos h2, if_pos (by omega)]
      · rw [if_neg h2, if_neg (by omega)]

theorem keyed : Keyed Tryd.prog 9 := string_keyed Tryd.underlying9
theorem zeroI (w : World) : (zeroValue 3).run Tryd.prog w = .ok (.int .i64 0) w := by kernel_rfl
abbrev OwnT (w : World) (g n : Nat) : Prop := w.ownsMap Tryd.prog 9 (plainElem (H := Unit) Tryd.prog 3) g n (tabD n)

set_option maxHeartbeats 1000000 in
set_option maxRecDepth 100000 in
theorem table_any (w : World) (ht : Tab w) :
    Calls Tryd.prog 28 #[] w fun e w' => e = .returned (.map (some w.heap.size)) ∧ OwnT w' w.heap.size 137 ∧ Below w.heap.size w w' := by
  have HT := Lib.hid ht
  clear ht
  have hmm := @run_makeMap Tryd.prog
  go_enter Tryd.func28, Tryd.ntmps28
  go_wp2_with fail
  have HB := Lib.hid (below_lit w (.map #[] 0))
  have HT1 := Lib.hid (HT.out.below HB.out)
  have HO : Hid (OwnT (w.alloc (.map #[] 0)) w.heap.size 0) := Lib.hid (World.ownsMap_made _ _ _ _)
  refine (list_any _ HT1.out).mono ?_
  rintro e w1 ⟨rfl, hc, hb⟩
  have HC := Lib.hid hc
  have HB1 := Lib.hid (below_two HB.out hb)
  have HO1 : Hid (OwnT w1 w.heap.size 0) := Lib.hid (by
    obtain ⟨es, clock, h1, h2, h3, h4⟩ := HO.out
    exact ⟨es, clock, (hb.block _ (by simp)).trans h1, h2, h3, h4⟩)
  clear hc hb
  go_wp2_with fail
  go_loopw [7] (fun i wr => ∃ k : Nat, k ≤ 137 ∧ i = .int .i64 k ∧ Hid (OwnT wr w.heap.size k) ∧ Hid (Below w.heap.size w wr) ∧ Hid (w1.grownBy wr (some w.heap.size)))
    (fun i _ => 137 - (intOf i).toNat)
  case atStart => exact ⟨0, by omega, rfl, HO1, HB1, Lib.hid (World.grownBy.refl _ _)⟩
  case round =>
    obtain ⟨k, hk, rfl, HOW, HBW, HG⟩ := hrel
    by_cases hlt : k < 137
    · have hcx : wr.cell? ⟨w.heap.size + 1, k, none⟩ = some (.string (nm k)) := by
        have h := HC.out k hlt
        have e : (w.alloc (.map #[] 0)).heap.size = w.heap.size + 1 := by simp
        rw [e] at h
        exact HG.out.cell h (by simp)
      have hkey : keyOf Tryd.prog 9 (.string (nm k)) = some (key (nm k)) := keyOf_string_mk Tryd.underlying9 (by have := (nm_size k hlt).2; unfold maxLen; omega)
      generalize hs : nm k = s at hcx hkey
      have HS := Lib.hid hs
      clear hs
      go_wp2_with (at_mapUpdate; refine wpList_mapUpdate_own _ rfl _ _ _ 34 rfl 9 3 keyed Tryd.underlying34 _ w.heap.size k _ rfl HOW.out (by unfold maxLen; omega) _ _ _ rfl rfl hkey _ [] (plainElem_int Tryd.underlying3 (WalkArith.wf_i64 (by omega))) ?_)
      intro w2 hown1 hgrow1
      have R1 : Hid (OwnT w2 w.heap.size (k + 1)) := Lib.hid (by rw [← HS.out] at hown1; exact hown1)
      have R2 := Lib.hid (HBW.out.grown hgrow1 HBW.out.size (fun j hj => by cases hj; exact Nat.le_refl _))
      have R3 := Lib.hid (HG.out.trans hgrow1)
      clear hown1 hgrow1 hcx hkey
      go_wp2
      go_roundw
      case rel => exact ⟨k + 1, by omega, by go_num, R1, R2, R3⟩
      case measure => simp [intOf] <;> omega
    · obtain rfl : k = 137 := by omega
      go_wp2
      go_ret
      exact ⟨rfl, HOW.out, HBW.out⟩

theorem innerR_at {k : Nat} : innerR ((k : Int) + 1) = decide (1 ≤ k ∧ k ≤ 10) := by
  rw [innerR]
  simp only [decide_eq_decide]
  omega

set_option maxHeartbeats 1000000 in
set_option maxRecDepth 100000 in
theorem Find_any (s : ByteArray) (r : Int) (w : World) (hr : findR (foldB s) = r) (hs : s.size ≤ 140737488355327) (ht : Tab w) :
    Calls Tryd.prog 21 #[.string s] w fun e w' => e = .returned (.int .i64 r) ∧ Below w.heap.size w w' := by
  have HT := Lib.hid ht
  have HR := Lib.hid hr
  clear ht hr
  go_enter Tryd.func21, Tryd.ntmps21
  go_wp2_with fail
  refine (table_any _ HT.out).mono ?_
  rintro e w1 ⟨rfl, ho, hb⟩
  have HO := Lib.hid ho
  have HB := Lib.hid hb
  have HT1 := Lib.hid (HT.out.below hb)
  clear ho hb
  go_wp2_with fail
  refine (Fold_any s _ hs).mono ?_
  rintro e w2 ⟨rfl, hb⟩
  have HO2 : Hid (OwnT w2 w.heap.size 137) := Lib.hid (by
    obtain ⟨es, clock, h1, h2, h3, h4⟩ := HO.out
    exact ⟨es, clock, (hb.block _ ((Array.getElem?_eq_some_iff.1 h1).1)).trans h1, h2, h3, h4⟩)
  have HB2 := Lib.hid (below_two HB.out hb)
  have HT2 := Lib.hid (HT1.out.below hb)
  clear hb
  have hkey : keyOf Tryd.prog 9 (.string (foldB s)) = some (key (foldB s)) := keyOf_string_mk Tryd.underlying9 (by rw [foldB_size]; unfold maxLen; omega)
  have hat := tabD_at (foldB s) 137 (by omega)
  have hle := nmIdx_le (foldB s)
  generalize foldB s = f at hkey hat hle HR
  have HA := Lib.hid hat
  clear hat
  go_wp2_with (at_lookup; refine wpList_lookup_own_int _ rfl _ _ 34 rfl 9 3 .i64 keyed Tryd.underlying34 Tryd.underlying3 (zeroI _) w.heap.size 137 _ rfl HO2.out _ _ rfl hkey ?_)
  intro c hc _
  have e1 : c = if nmIdx f < 137 then (nmIdx f : Int) + 1 else 0 := by
    have := HA.out.symm.trans hc
    simpa using this.symm
  have HE := Lib.hid e1
  clear hc e1 hkey
  obtain ⟨b, hb⟩ : ∃ b, innerR c = b := ⟨_, rfl⟩
  have HI := Lib.hid hb
  clear hb
  go_wp2_with fail
  refine (Inner_any _ _ _ HI.out HT2.out).mono ?_
  rintro e w3 ⟨rfl, hb⟩
  have HB3 := Lib.hid (below_two HB2.out hb)
  clear hb
  cases b with
  | true =>
    obtain rfl : r = 0 := by
      rw [← HR.out, findR, if_neg]
      rintro ⟨h1, h2⟩
      have h3 := HI.out
      rw [HE.out, if_pos h1, h2] at h3
      cases h3
    go_wp2
    go_ret
    exact ⟨rfl, HB3.out⟩
  | false =>
    obtain rfl : c = r := by
      rw [← HR.out, findR]
      have h3 := HI.out
      have h4 := HE.out
      by_cases h1 : nmIdx f < 137
      · rw [if_pos h1] at h4
        rw [h4] at h3
        rw [if_pos ⟨h1, h3⟩, h4]
      · rw [if_neg h1] at h4
        rw [if_neg (fun h => h1 h.1), h4]
    go_wp2
    go_ret
    exact ⟨rfl, HB3.out⟩
end Go.Proofs.YtcnmdagbmngaeaaDoor
