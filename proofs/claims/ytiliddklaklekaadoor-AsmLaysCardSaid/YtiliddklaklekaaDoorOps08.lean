
/- Package ops: what each call does. -/
import Derived.Test.YtiliddklaklekaaDoorShelf
import Derived.Test.YtiliddklaklekaaDoorKept
import Derived.Test.YtiliddklaklekaaDoorPlain08
import Derived.Lib.SmallJoins
import Derived.WalkSpells
import Derived.Outline
import Derived.WalkLawsBesides
namespace Go.Proofs.YtiliddklaklekaaDoor
open Go.RowKit

abbrev Tab (w : World) : Prop := Lib.TabIs Tryd.prog w "strings.asciiSpace" .u8 Lib.asciiSpaceTab
theorem ret_bool {a b : Bool} (h : a = b) : Ending.returned (.bool a) = .returned (.bool b) := by rw [h]
theorem gTab : Tryd.prog.globalNamed "strings.asciiSpace" = some 0 := by kernel_rfl
theorem Tab.below {w w' : World} (h : Tab w) (hb : Below w.heap.size w w') : Tab w' := Go.Joins.tab_stays gTab h hb (Nat.le_refl _)

/-- Texts as cells. -/
def strs (l : List ByteArray) : List Value := l.map .string
theorem strs_length (l : List ByteArray) : (strs l).length = l.length := by simp [strs]
theorem strs_get {l : List ByteArray} {j : Nat} (h : j < l.length) : (strs l)[j]? = some (.string (l.getD j ByteArray.empty)) := by
  simp [strs, List.getElem?_eq_getElem h, List.getD_eq_getElem?_getD]
theorem strs_one (l : List ByteArray) : ∀ v ∈ strs l, v.oneCell' = true := by
  intro v hv
  obtain ⟨x, _, rfl⟩ := List.mem_map.1 hv
  rfl
abbrev RdS (w : World) (A : Option Addr) (c : Nat) (l : List ByteArray) : Prop := Rd w A l.length c 1 (strs l)
theorem strs_L (l : List (List UInt8)) : (l.map fun l => Value.string ⟨l.toArray⟩) = strs (strsL l) := by simp [strs, strsL]

theorem ascii_all : ∀ (j : Nat) b, (⟨allL.toArray⟩ : ByteArray).data.toList[j]? = some b → b.toNat < 128 := by
  have h : ∀ b ∈ allL, b.toNat < 128 := by decide +kernel
  intro j b hb
  exact h b (List.mem_of_getElem? hb)
theorem ascii_ctl : ∀ (j : Nat) b, (⟨ctlL.toArray⟩ : ByteArray).data.toList[j]? = some b → b.toNat < 128 := by
  have h : ∀ b ∈ ctlL, b.toNat < 128 := by decide +kernel
  intro j b hb
  exact h b (List.mem_of_getElem? hb)

theorem Fields_all (s : ByteArray) (w : World) (hs : s = ⟨allL.toArray⟩) (ht : Tab w) :
    Calls Tryd.prog 48 #[.string s] w fun e w' => e = .returned (.slice (some ⟨w.heap.size, 0, none⟩) 137 137) ∧ w.alloc (.cells (strs opNames).toArray 9) = w' := by
  subst hs
  refine (Tryd.strings_Fields ⟨allL.toArray⟩ w (by decide +kernel) ascii_all ht).mono ?_
  rintro e w' ⟨rfl, rfl⟩
  have e1 : Lib.fields (⟨allL.toArray⟩ : ByteArray).data.toList = opNamesL := fields_all
  rw [e1, strs_L]
  exact ⟨rfl, rfl⟩
theorem Fields_ctl (s : ByteArray) (w : World) (hs : s = ⟨ctlL.toArray⟩) (ht : Tab w) :
    Calls Tryd.prog 48 #[.string s] w fun e w' => e = .returned (.slice (some ⟨w.heap.size, 0, none⟩) ctlNames.length ctlNames.length) ∧ w.alloc (.cells (strs ctlNames).toArray 9) = w' := by
  subst hs
  refine (Tryd.strings_Fields ⟨ctlL.toArray⟩ w (by decide +kernel) ascii_ctl ht).mono ?_
  rintro e w' ⟨rfl, rfl⟩
  have e1 : Lib.fields (⟨ctlL.toArray⟩ : ByteArray).data.toList = ctlNamesL := fields_ctl
  rw [e1, strs_L]
  exact ⟨rfl, rfl⟩

set_option maxRecDepth 100000 in
theorem list_any (w : World) (ht : Tab w) :
    Calls Tryd.prog 45 #[] w fun e w' => e = .returned (.slice (some ⟨w.heap.size, 0, none⟩) 137 137) ∧ (∀ k, k < 137 → w'.cell? ⟨w.heap.size, k, none⟩ = some (.string (nm k))) ∧ Below w.heap.size w w' := by
  go_enter Tryd.func45, Tryd.ntmps45
  go_wp2_with fail
  refine (Fields_all _ _ (by kernel_rfl) ht).mono ?_
  rintro e w' ⟨rfl, rfl⟩
  go_wp2
  go_ret
  refine ⟨rfl, fun k hk => ?_, below_lit _ _⟩
  have hr : RdS (w.alloc (.cells (strs opNames).toArray 9)) (some ⟨w.heap.size, 0, none⟩) 137 opNames :=
    rd_alloc w (strs opNames) _ 9 (0, 0) _ 137 1 rfl (by simp [strs_length]) (by rw [opNames_len]; decide) (by decide)
  obtain ⟨ad, e1, hc⟩ := hr.cell k _ (strs_get (by rw [opNames_len]; exact hk))
  cases e1
  rw [Addr.add_lit] at hc
  simpa [nm] using hc
set_option maxHeartbeats 400000 in
theorem Is_any (op : Int) (b : Bool) (w : World) (hb : isR op = b) (ht : Tab w) :
    Calls Tryd.prog 41 #[.int .i64 op] w fun e w' => e = .returned (.bool b) ∧ Below w.heap.size w w' := by
  have HT := Lib.hid ht
  have HB := Lib.hid hb
  clear ht hb
  by_cases h1 : 1 ≤ op
  · by_cases h2 : op ≤ 137
    · obtain rfl : b = true := by rw [← HB.out]; simp [isR]; omega
      go_enter Tryd.func41, Tryd.ntmps41
      go_wp2_with fail
      refine (list_any _ HT.out).mono ?_
      rintro e w' ⟨rfl, _, hb⟩
      have HB1 := Lib.hid hb
      clear hb
      go_wp2
      go_ret
      exact ⟨rfl, HB1.out⟩
    · have h2' : decide (op ≤ 137) = false := by simpa using h2
      obtain rfl : b = false := by rw [← HB.out]; simp [isR]; omega
      clear h2
      go_enter Tryd.func41, Tryd.ntmps41
      go_wp2_with fail
      refine (list_any _ HT.out).mono ?_
      rintro e w' ⟨rfl, _, hb⟩
      have HB1 := Lib.hid hb
      clear hb
      go_wp2
      go_ret
      exact ⟨rfl, HB1.out⟩
  · obtain rfl : b = false := by rw [← HB.out]; simp [isR]; omega
    go_enter Tryd.func41, Tryd.ntmps41
    go_wp2
    go_ret
    exact ⟨rfl, Below.refl _ _⟩

set_option maxHeartbeats 400000 in
theorem Name_any (op : Int) (s : ByteArray) (w : World) (hs : nameR op = s) (ht : Tab w) :
    Calls Tryd.prog 42 #[.int .i64 op] w fun e w' => e = .returned (.string s) ∧ Below w.heap.size w w' := by
  have HT := Lib.hid ht
  have HS := Lib.hid hs
  clear ht hs
  cases h : isR op with
  | true =>
    have HI := Lib.hid h
    obtain ⟨k, hk, rfl⟩ := is_at h
    clear h
    go_enter Tryd.func42, Tryd.ntmps42
    go_wp2_with fail
    refine (Is_any _ true _ HI.out HT.out).mono ?_
    rintro e w1 ⟨rfl, hb⟩
    have HT1 := Lib.hid (HT.out.below hb)
    have HB := Lib.hid hb
    clear hb
    go_wp2_with fail
    refine (list_any _ HT1.out).mono ?_
    rintro e w2 ⟨rfl, hc, hb⟩
    have hc := hc k hk
    have e2 : nm k = s := by
      have := HS.out
      rw [nameR_at k hk] at this
      exact this
    subst e2
    have HB2 := Lib.hid (below_two HB.out hb)
    clear hb
    go_wp2
    go_ret
    exact ⟨rfl, HB2.out⟩
  | false =>
    have HI := Lib.hid h
    obtain rfl : s = ByteArray.empty := by rw [← HS.out, nameR_no]; simpa [isR] using h
    clear h
    go_enter Tryd.func42, Tryd.ntmps42
    go_wp2_with fail
    refine (Is_any _ false _ HI.out HT.out).mono ?_
    rintro e w1 ⟨rfl, hb⟩
    have HB := Lib.hid hb
    clear hb
    go_wp2
    go_ret
    exact ⟨rfl, HB.out⟩

set_option maxHeartbeats 400000 in
theorem Inner_any (op : Int) (b : Bool) (w : World) (hb : innerR op = b) (ht : Tab w) :
    Calls Tryd.prog 38 #[.int .i64 op] w fun e w' => e = .returned (.bool b) ∧ Below w.heap.size w w' := by
  have HT := Lib.hid ht
  rw [← inner_is] at hb
  have HS := Lib.hid hb
  clear ht hb
  obtain ⟨s, hs⟩ : ∃ s, nameR op = s := ⟨_, rfl⟩
  rw [hs] at HS
  have HN := Lib.hid hs
  clear hs
  obtain ⟨i, hi⟩ : ∃ i, isR op = i := ⟨_, rfl⟩
  rw [hi] at HS
  have HI := Lib.hid hi
  clear hi
  cases i with
  | false =>
    obtain rfl : b = false := by have := HS.out; simpa using this.symm
    go_enter Tryd.func38, Tryd.ntmps38
    go_wp2_with fail
    refine (Is_any _ _ _ HI.out HT.out).mono ?_
    rintro e w1 ⟨rfl, hb⟩
    have HB := Lib.hid hb
    clear hb
    go_wp2
    go_ret
    exact ⟨rfl, HB.out⟩
  | true =>
    have hs1 : s.size ≤ 10 := by
      obtain ⟨k, hk, rfl⟩ := is_at HI.out
      rw [← HN.out, nameR_at k hk]
      exact (nm_size k hk).2
    go_enter Tryd.func38, Tryd.ntmps38
    go_wp2_with fail
    refine (Is_any _ _ _ HI.out HT.out).mono ?_
    rintro e w1 ⟨rfl, hb⟩
    have HT1 := Lib.hid (HT.out.below hb)
    have HB := Lib.hid hb
    clear hb
    go_wp2_with fail
    refine (Name_any _ _ _ HN.out HT1.out).mono ?_
    rintro e w2 ⟨rfl, hb⟩
    have HT2 := Lib.hid (HT1.out.below hb)
    have HB2 := Lib.hid (below_two HB.out hb)
    clear hb
    by_cases h1 : 1 < s.size
    · have e1 : Hid (Lib.hasPrefix s.data.toList [40] = b) := Lib.hid (by have := HS.out; simpa [h1] using this)
      go_wp2_with fail
      refine (Name_any _ _ _ HN.out HT2.out).mono ?_
      rintro e w3 ⟨rfl, hb⟩
      have HB3 := Lib.hid (below_two HB2.out hb)
      clear hb
      go_wp2_with fail
      refine (Tryd.strings_HasPrefix _ _ _).mono ?_
      rintro e w' ⟨rfl, rfl⟩
      go_wp2
      go_ret
      refine ⟨ret_bool ?_, HB3.out⟩
      exact e1.out
    · obtain rfl : b = false := by have := HS.out; simp [h1] at this; exact this
      have h1' : s.size ≤ 1 := by omega
      clear h1 hs1
      go_wp2
      go_ret
      exact ⟨rfl, HB2.out⟩

set_option maxHeartbeats 400000 in
theorem among_any (op : Int) (g c n : Nat) (l : List ByteArray) (b : Bool) (w : World) (hn : l.length = n) (hb : (isR op && Lib.containsS l (nameR op)) = b) (hr : RdS w (some ⟨g, 0, none⟩) c l) (ht : Tab w) :
    Calls Tryd.prog 39 #[.int .i64 op, .slice (some ⟨g, 0, none⟩) n c] w fun e w' => e = .returned (.bool b) ∧ Below w.heap.size w w' := by
  have HT := Lib.hid ht
  have HS := Lib.hid hb
  have HR := Lib.hid hr
  have HL := Lib.hid hn
  clear ht hb hr hn
  obtain ⟨s, hs⟩ : ∃ s, nameR op = s := ⟨_, rfl⟩
  rw [hs] at HS
  have HN := Lib.hid hs
  clear hs
  obtain ⟨i, hi⟩ : ∃ i, isR op = i := ⟨_, rfl⟩
  rw [hi] at HS
  have HI := Lib.hid hi
  clear hi
  cases i with
  | false =>
    obtain rfl : b = false := by have := HS.out; simpa using this.symm
    go_enter Tryd.func39, Tryd.ntmps39
    go_wp2_with fail
    refine (Is_any _ _ _ HI.out HT.out).mono ?_
    rintro e w1 ⟨rfl, hb⟩
    have HB := Lib.hid hb
    clear hb
    go_wp2
    go_ret
    exact ⟨rfl, HB.out⟩
  | true =>
    go_enter Tryd.func39, Tryd.ntmps39
    go_wp2_with fail
    refine (Is_any _ _ _ HI.out HT.out).mono ?_
    rintro e w1 ⟨rfl, hb⟩
    have HT1 := Lib.hid (HT.out.below hb)
    have HB := Lib.hid hb
    clear hb
    go_wp2_with fail
    refine (Name_any _ _ _ HN.out HT1.out).mono ?_
    rintro e w2 ⟨rfl, hb⟩
    have HB2 := Lib.hid (below_two HB.out hb)
    clear hb
    go_wp2_with fail
    have hr2 := HR.out.below HB2.out
    have hc : Calls Tryd.prog 44 #[.slice (some ⟨g, 0, none⟩) n c, .string s] w2 fun e w' => e = .returned (.bool (Lib.containsS (l.take n) s)) ∧ w' = w2 := by
      refine Tryd.slices_Contains_string g 0 n c l s w2 (by rw [HL.out]; exact Nat.le_refl _) (by have h1 := hr2.le; have h2 := hr2.cap; rw [HL.out] at h1; unfold maxLen at h2; omega) fun j hj => ?_
      obtain ⟨ad, e1, h2⟩ := hr2.cell j _ (strs_get hj)
      cases e1
      rw [Addr.add_lit] at h2
      exact h2
    refine hc.mono ?_
    rintro e w' ⟨rfl, rfl⟩
    have e1 : Hid (Lib.containsS (l.take n) s = b) := Lib.hid (by rw [List.take_of_length_le (by rw [HL.out]; exact Nat.le_refl _)]; have := HS.out; simpa using this)
    clear hc hr2
    rw [e1.out]
    go_wp2
    go_ret
    exact ⟨rfl, HB2.out⟩

theorem infoStr : (Tryd.prog.info? 9).map (fun i => (i.zero, i.size, i.bytes)) = some (some (.string ⟨#[]⟩), 1, 16) := by kernel_rfl

def nowM : List ByteArray := [⟨#[91]⟩, ⟨#[40]⟩, ⟨#[92]⟩, ⟨#[46, 34]⟩]

set_option maxHeartbeats 400000 in
theorem Wide_any (op : Int) (b : Bool) (w : World) (hb : wideR op = b) (ht : Tab w) :
    Calls Tryd.prog 32 #[.int .i64 op] w fun e w' => e = .returned (.bool b) ∧ Below w.heap.size w w' := by
  have HT := Lib.hid ht
  rw [← wide_is] at hb
  have HS := Lib.hid hb
  clear ht hb
  obtain ⟨i, hi⟩ : ∃ i, innerR op = i := ⟨_, rfl⟩
  rw [hi] at HS
  have HI := Lib.hid hi
  obtain ⟨m, hm⟩ : ∃ m, (isR op && Lib.containsS [⟨#[40, 68, 79, 69, 83, 41]⟩] (nameR op)) = m := ⟨_, rfl⟩
  rw [hm] at HS
  have HM := Lib.hid hm
  clear hi hm
  go_enter Tryd.func32, Tryd.ntmps32
  go_wp2_with fail
  refine (Inner_any _ _ _ HI.out HT.out).mono ?_
  rintro e w1 ⟨rfl, hb⟩
  have HB := Lib.hid hb
  have HT1 := Lib.hid (HT.out.below hb)
  clear hb
  cases i with
  | false =>
    obtain rfl : b = false := by have := HS.out; simpa using this.symm
    go_wp2
    go_ret
    exact ⟨rfl, HB.out⟩
  | true =>
    have e1 : Hid ((!m) = b) := Lib.hid (by have := HS.out; simpa using this)
    have HR : Hid (RdS (w1.alloc (.cells #[.string ⟨#[40, 68, 79, 69, 83, 41]⟩] 9)) (some ⟨w1.heap.size, 0, none⟩) 1 [⟨#[40, 68, 79, 69, 83, 41]⟩]) := Lib.hid (rd_alloc _ _ _ _ _ _ _ _ rfl rfl (by decide) (by decide))
    have HB2 := Lib.hid (HB.out.alloc HB.out.size (.cells #[.string ⟨#[40, 68, 79, 69, 83, 41]⟩] 9))
    have HT2 := Lib.hid (HT.out.below HB2.out)
    go_wp2_with fail
    refine (among_any op _ 1 1 _ m _ rfl HM.out HR.out HT2.out).mono ?_
    rintro e w3 ⟨rfl, hb⟩
    have HB3 := Lib.hid (below_two HB2.out hb)
    clear hb
    go_wp2
    go_ret
    exact ⟨ret_bool e1.out, HB3.out⟩
end Go.Proofs.YtiliddklaklekaaDoor
