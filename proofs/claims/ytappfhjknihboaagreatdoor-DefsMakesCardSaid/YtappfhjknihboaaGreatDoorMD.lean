/-  -/
import Derived.Test.YtappfhjknihboaaGreatDoorPlain08
import Derived.Test.YtappfhjknihboaaGreatDoorShelf
import Derived.Test.YtappfhjknihboaaGreatDoorMA
import Derived.Lib.SmallJoins
import Derived.WalkSpells
import Derived.Outline
import Derived.WalkLawsBesides
import Derived.Maps.OwnOps
import Derived.Maps.Views
import Derived.StringKeys

/- Plain laws on the words that there are from the begin. -/
namespace Go.Proofs.YtappfhjknihboaaGreatDoor
theorem nm_fold : ∀ k, k < 137 → foldB (nm k) = nm k := by decide +kernel
theorem nm_none : nmIdx (foldB ByteArray.empty) = 137 := by decide +kernel
theorem find_form (f : ByteArray) : findR f = 0 ∨ ∃ c : Nat, c < 137 ∧ findR f = (c : Int) + 1 ∧ isR ((c : Int) + 1) = true ∧ innerR ((c : Int) + 1) = false ∧ nameR ((c : Int) + 1) = f := by
  unfold findR
  split
  · rename_i h
    obtain ⟨h1, h2⟩ := h
    refine .inr ⟨nmIdx f, h1, rfl, ?_, h2, ?_⟩
    · simp [isR]; omega
    · rw [nameR_at _ h1, nmIdx_at h1]
  · exact .inl rfl
theorem find_there {op : Int} (h1 : isR op = true) (h2 : innerR op = false) : findR (foldB (nameR op)) = op := by
  obtain ⟨k, hk, rfl⟩ := is_at h1
  rw [nameR_at k hk, nm_fold k hk, findR, nm_idx k hk, if_pos ⟨hk, h2⟩]
theorem find_inner {op : Int} (h1 : isR op = true) (h2 : innerR op = true) : findR (foldB (nameR op)) = 0 := by
  obtain ⟨k, hk, rfl⟩ := is_at h1
  rw [nameR_at k hk, nm_fold k hk, findR, nm_idx k hk, if_neg (by rw [h2]; simp)]
theorem find_not {op : Int} (h1 : isR op = false) : findR (foldB (nameR op)) = 0 := by
  rw [nameR_no (by simpa [isR] using h1), findR, nm_none, if_neg (by omega)]
theorem name_size (op : Int) : (nameR op).size ≤ 10 := by
  unfold nameR
  split
  · exact (nm_size _ (by omega)).2
  · decide
theorem name_some {op : Int} (h : isR op = true) : 0 < (nameR op).size := by
  obtain ⟨k, hk, rfl⟩ := is_at h
  rw [nameR_at k hk]
  exact (nm_size k hk).1
/-- Of kinds. -/
theorem kinds_is {op : Int} (h : isR op = false) : innerR op = false ∧ nowR op = false ∧ onlyR op = false ∧ wideR op = false := by
  simp only [isR, decide_eq_false_iff_not] at h
  simp only [innerR, nowR, onlyR, wideR, decide_eq_false_iff_not]
  omega
theorem kinds_inner {op : Int} (h : innerR op = true) : nowR op = false ∧ onlyR op = false := by
  simp only [innerR, decide_eq_true_eq] at h
  simp only [nowR, onlyR, decide_eq_false_iff_not]
  omega
theorem kinds_wide {op : Int} (h : innerR op = false) : wideR op = false := by
  simp only [innerR, decide_eq_false_iff_not] at h
  simp only [wideR, decide_eq_false_iff_not]
  omega
end Go.Proofs.YtappfhjknihboaaGreatDoor


/- Package ops: what each call does. -/
namespace Go.Proofs.YtappfhjknihboaaGreatDoor
open Go.RowKit

abbrev Tab (w : World) : Prop := Lib.TabIs Tryz.prog w "strings.asciiSpace" .u8 Lib.asciiSpaceTab
theorem ret_bool {a b : Bool} (h : a = b) : Ending.returned (.bool a) = .returned (.bool b) := by rw [h]
theorem gTab : Tryz.prog.globalNamed "strings.asciiSpace" = some 0 := by kernel_rfl
theorem Tab.below {w w' : World} (h : Tab w) (hb : Below w.heap.size w w') : Tab w' := Go.Joins.tab_stays gTab h hb (Nat.le_refl _)

/-- Texts as cells. -/
def strs (l : List ByteArray) : List Value := l.map .string
theorem strs_length (l : List ByteArray) : (strs l).length = l.length := by simp [strs]
theorem strs_get {l : List ByteArray} {j : Nat} (h : j < l.length) : (strs l)[j]? = some (.string (l.getD j ByteArray.empty)) := by
  simp [strs, List.getElem?_eq_getElem h, List.getD_eq_getElem?_getD]
theorem strs_one (l : List ByteArray) : ∀ v ∈ strs l, v.oneCell' = true := by
  intro v hv
  obtain ⟨x, _, rfl⟩ := List.mem_map.1 hv
  rfl
abbrev RdS (w : World) (A : Option Addr) (c : Nat) (l : List ByteArray) : Prop := Rd w A l.length c 1 (strs l)
theorem strs_L (l : List (List UInt8)) : (l.map fun l => Value.string ⟨l.toArray⟩) = strs (strsL l) := by simp [strs, strsL]

theorem ascii_all : ∀ (j : Nat) b, (⟨allL.toArray⟩ : ByteArray).data.toList[j]? = some b → b.toNat < 128 := by
  have h : ∀ b ∈ allL, b.toNat < 128 := by decide +kernel
  intro j b hb
  exact h b (List.mem_of_getElem? hb)
theorem ascii_ctl : ∀ (j : Nat) b, (⟨ctlL.toArray⟩ : ByteArray).data.toList[j]? = some b → b.toNat < 128 := by
  have h : ∀ b ∈ ctlL, b.toNat < 128 := by decide +kernel
  intro j b hb
  exact h b (List.mem_of_getElem? hb)

theorem Fields_all (s : ByteArray) (w : World) (hs : s = ⟨allL.toArray⟩) (ht : Tab w) :
    Calls Tryz.prog 107 #[.string s] w fun e w' => e = .returned (.slice (some ⟨w.heap.size, 0, none⟩) 137 137) ∧ w.alloc (.cells (strs opNames).toArray 9) = w' := by
  subst hs
  refine (Tryz.strings_Fields ⟨allL.toArray⟩ w (by decide +kernel) ascii_all ht).mono ?_
  rintro e w' ⟨rfl, rfl⟩
  have e1 : Lib.fields (⟨allL.toArray⟩ : ByteArray).data.toList = opNamesL := fields_all
  rw [e1, strs_L]
  exact ⟨rfl, rfl⟩
theorem Fields_ctl (s : ByteArray) (w : World) (hs : s = ⟨ctlL.toArray⟩) (ht : Tab w) :
    Calls Tryz.prog 107 #[.string s] w fun e w' => e = .returned (.slice (some ⟨w.heap.size, 0, none⟩) ctlNames.length ctlNames.length) ∧ w.alloc (.cells (strs ctlNames).toArray 9) = w' := by
  subst hs
  refine (Tryz.strings_Fields ⟨ctlL.toArray⟩ w (by decide +kernel) ascii_ctl ht).mono ?_
  rintro e w' ⟨rfl, rfl⟩
  have e1 : Lib.fields (⟨ctlL.toArray⟩ : ByteArray).data.toList = ctlNamesL := fields_ctl
  rw [e1, strs_L]
  exact ⟨rfl, rfl⟩

set_option maxRecDepth 100000 in
theorem list_any (w : World) (ht : Tab w) :
    Calls Tryz.prog 60 #[] w fun e w' => e = .returned (.slice (some ⟨w.heap.size, 0, none⟩) 137 137) ∧ (∀ k, k < 137 → w'.cell? ⟨w.heap.size, k, none⟩ = some (.string (nm k))) ∧ Below w.heap.size w w' := by
  go_enter Tryz.func60, Tryz.ntmps60
  go_wp2_with fail
  refine (Fields_all _ _ (by kernel_rfl) ht).mono ?_
  rintro e w' ⟨rfl, rfl⟩
  go_wp2
  go_ret
  refine ⟨rfl, fun k hk => ?_, below_lit _ _⟩
  have hr : RdS (w.alloc (.cells (strs opNames).toArray 9)) (some ⟨w.heap.size, 0, none⟩) 137 opNames :=
    rd_alloc w (strs opNames) _ 9 (0, 0) _ 137 1 rfl (by simp [strs_length]) (by rw [opNames_len]; decide) (by decide)
  obtain ⟨ad, e1, hc⟩ := hr.cell k _ (strs_get (by rw [opNames_len]; exact hk))
  cases e1
  rw [Addr.add_lit] at hc
  simpa [nm] using hc
set_option maxRecDepth 100000 in
theorem control_any (w : World) (ht : Tab w) :
    Calls Tryz.prog 93 #[] w fun e w' => e = .returned (.slice (some ⟨w.heap.size, 0, none⟩) ctlNames.length ctlNames.length) ∧ w'.ownsRow w.heap.size 9 1 (.slice (some ⟨w.heap.size, 0, none⟩) ctlNames.length ctlNames.length) ctlNames.length (strs ctlNames) ∧ Below w.heap.size w w' := by
  go_enter Tryz.func93, Tryz.ntmps93
  go_wp2_with fail
  refine (Fields_ctl _ _ (by kernel_rfl) ht).mono ?_
  rintro e w' ⟨rfl, rfl⟩
  go_wp2
  go_ret
  have := own_block (base := w.heap.size) (heap_alloc_new w (.cells (strs ctlNames).toArray 9)) (Nat.le_refl _) (by rw [strs_length, ctlNames_len]; decide)
  rw [strs_length] at this
  exact ⟨rfl, this, below_lit _ _⟩

set_option maxHeartbeats 400000 in
theorem Is_any (op : Int) (b : Bool) (w : World) (hb : isR op = b) (ht : Tab w) :
    Calls Tryz.prog 59 #[.int .i64 op] w fun e w' => e = .returned (.bool b) ∧ Below w.heap.size w w' := by
  have HT := Lib.hid ht
  have HB := Lib.hid hb
  clear ht hb
  by_cases h1 : 1 ≤ op
  · by_cases h2 : op ≤ 137
    · obtain rfl : b = true := by rw [← HB.out]; simp [isR]; omega
      go_enter Tryz.func59, Tryz.ntmps59
      go_wp2_with fail
      refine (list_any _ HT.out).mono ?_
      rintro e w' ⟨rfl, _, hb⟩
      have HB1 := Lib.hid hb
      clear hb
      go_wp2
      go_ret
      exact ⟨rfl, HB1.out⟩
    · have h2' : decide (op ≤ 137) = false := by simpa using h2
      obtain rfl : b = false := by rw [← HB.out]; simp [isR]; omega
      clear h2
      go_enter Tryz.func59, Tryz.ntmps59
      go_wp2_with fail
      refine (list_any _ HT.out).mono ?_
      rintro e w' ⟨rfl, _, hb⟩
      have HB1 := Lib.hid hb
      clear hb
      go_wp2
      go_ret
      exact ⟨rfl, HB1.out⟩
  · obtain rfl : b = false := by rw [← HB.out]; simp [isR]; omega
    go_enter Tryz.func59, Tryz.ntmps59
    go_wp2
    go_ret
    exact ⟨rfl, Below.refl _ _⟩

set_option maxHeartbeats 400000 in
theorem Name_any (op : Int) (s : ByteArray) (w : World) (hs : nameR op = s) (ht : Tab w) :
    Calls Tryz.prog 23 #[.int .i64 op] w fun e w' => e = .returned (.string s) ∧ Below w.heap.size w w' := by
  have HT := Lib.hid ht
  have HS := Lib.hid hs
  clear ht hs
  cases h : isR op with
  | true =>
    have HI := Lib.hid h
    obtain ⟨k, hk, rfl⟩ := is_at h
    clear h
    go_enter Tryz.func23, Tryz.ntmps23
    go_wp2_with fail
    refine (Is_any _ true _ HI.out HT.out).mono ?_
    rintro e w1 ⟨rfl, hb⟩
    have HT1 := Lib.hid (HT.out.below hb)
    have HB := Lib.hid hb
    clear hb
    go_wp2_with fail
    refine (list_any _ HT1.out).mono ?_
    rintro e w2 ⟨rfl, hc, hb⟩
    have hc := hc k hk
    have e2 : nm k = s := by
      have := HS.out
      rw [nameR_at k hk] at this
      exact this
    subst e2
    have HB2 := Lib.hid (below_two HB.out hb)
    clear hb
    go_wp2
    go_ret
    exact ⟨rfl, HB2.out⟩
  | false =>
    have HI := Lib.hid h
    obtain rfl : s = ByteArray.empty := by rw [← HS.out, nameR_no]; simpa [isR] using h
    clear h
    go_enter Tryz.func23, Tryz.ntmps23
    go_wp2_with fail
    refine (Is_any _ false _ HI.out HT.out).mono ?_
    rintro e w1 ⟨rfl, hb⟩
    have HB := Lib.hid hb
    clear hb
    go_wp2
    go_ret
    exact ⟨rfl, HB.out⟩

set_option maxHeartbeats 400000 in
theorem Inner_any (op : Int) (b : Bool) (w : World) (hb : innerR op = b) (ht : Tab w) :
    Calls Tryz.prog 40 #[.int .i64 op] w fun e w' => e = .returned (.bool b) ∧ Below w.heap.size w w' := by
  have HT := Lib.hid ht
  rw [← inner_is] at hb
  have HS := Lib.hid hb
  clear ht hb
  obtain ⟨s, hs⟩ : ∃ s, nameR op = s := ⟨_, rfl⟩
  rw [hs] at HS
  have HN := Lib.hid hs
  clear hs
  obtain ⟨i, hi⟩ : ∃ i, isR op = i := ⟨_, rfl⟩
  rw [hi] at HS
  have HI := Lib.hid hi
  clear hi
  cases i with
  | false =>
    obtain rfl : b = false := by have := HS.out; simpa using this.symm
    go_enter Tryz.func40, Tryz.ntmps40
    go_wp2_with fail
    refine (Is_any _ _ _ HI.out HT.out).mono ?_
    rintro e w1 ⟨rfl, hb⟩
    have HB := Lib.hid hb
    clear hb
    go_wp2
    go_ret
    exact ⟨rfl, HB.out⟩
  | true =>
    have hs1 : s.size ≤ 10 := by
      obtain ⟨k, hk, rfl⟩ := is_at HI.out
      rw [← HN.out, nameR_at k hk]
      exact (nm_size k hk).2
    go_enter Tryz.func40, Tryz.ntmps40
    go_wp2_with fail
    refine (Is_any _ _ _ HI.out HT.out).mono ?_
    rintro e w1 ⟨rfl, hb⟩
    have HT1 := Lib.hid (HT.out.below hb)
    have HB := Lib.hid hb
    clear hb
    go_wp2_with fail
    refine (Name_any _ _ _ HN.out HT1.out).mono ?_
    rintro e w2 ⟨rfl, hb⟩
    have HT2 := Lib.hid (HT1.out.below hb)
    have HB2 := Lib.hid (below_two HB.out hb)
    clear hb
    by_cases h1 : 1 < s.size
    · have e1 : Hid (Lib.hasPrefix s.data.toList [40] = b) := Lib.hid (by have := HS.out; simpa [h1] using this)
      go_wp2_with fail
      refine (Name_any _ _ _ HN.out HT2.out).mono ?_
      rintro e w3 ⟨rfl, hb⟩
      have HB3 := Lib.hid (below_two HB2.out hb)
      clear hb
      go_wp2_with fail
      refine (Tryz.strings_HasPrefix _ _ _).mono ?_
      rintro e w' ⟨rfl, rfl⟩
      go_wp2
      go_ret
      refine ⟨ret_bool ?_, HB3.out⟩
      exact e1.out
    · obtain rfl : b = false := by have := HS.out; simp [h1] at this; exact this
      have h1' : s.size ≤ 1 := by omega
      clear h1 hs1
      go_wp2
      go_ret
      exact ⟨rfl, HB2.out⟩

set_option maxHeartbeats 400000 in
theorem among_any (op : Int) (g c n : Nat) (l : List ByteArray) (b : Bool) (w : World) (hn : l.length = n) (hb : (isR op && Lib.containsS l (nameR op)) = b) (hr : RdS w (some ⟨g, 0, none⟩) c l) (ht : Tab w) :
    Calls Tryz.prog 92 #[.int .i64 op, .slice (some ⟨g, 0, none⟩) n c] w fun e w' => e = .returned (.bool b) ∧ Below w.heap.size w w' := by
  have HT := Lib.hid ht
  have HS := Lib.hid hb
  have HR := Lib.hid hr
  have HL := Lib.hid hn
  clear ht hb hr hn
  obtain ⟨s, hs⟩ : ∃ s, nameR op = s := ⟨_, rfl⟩
  rw [hs] at HS
  have HN := Lib.hid hs
  clear hs
  obtain ⟨i, hi⟩ : ∃ i, isR op = i := ⟨_, rfl⟩
  rw [hi] at HS
  have HI := Lib.hid hi
  clear hi
  cases i with
  | false =>
    obtain rfl : b = false := by have := HS.out; simpa using this.symm
    go_enter Tryz.func92, Tryz.ntmps92
    go_wp2_with fail
    refine (Is_any _ _ _ HI.out HT.out).mono ?_
    rintro e w1 ⟨rfl, hb⟩
    have HB := Lib.hid hb
    clear hb
    go_wp2
    go_ret
    exact ⟨rfl, HB.out⟩
  | true =>
    go_enter Tryz.func92, Tryz.ntmps92
    go_wp2_with fail
    refine (Is_any _ _ _ HI.out HT.out).mono ?_
    rintro e w1 ⟨rfl, hb⟩
    have HT1 := Lib.hid (HT.out.below hb)
    have HB := Lib.hid hb
    clear hb
    go_wp2_with fail
    refine (Name_any _ _ _ HN.out HT1.out).mono ?_
    rintro e w2 ⟨rfl, hb⟩
    have HB2 := Lib.hid (below_two HB.out hb)
    clear hb
    go_wp2_with fail
    have hr2 := HR.out.below HB2.out
    have hc : Calls Tryz.prog 120 #[.slice (some ⟨g, 0, none⟩) n c, .string s] w2 fun e w' => e = .returned (.bool (Lib.containsS (l.take n) s)) ∧ w' = w2 := by
      refine Tryz.slices_Contains_string g 0 n c l s w2 (by rw [HL.out]; exact Nat.le_refl _) (by have h1 := hr2.le; have h2 := hr2.cap; rw [HL.out] at h1; unfold maxLen at h2; omega) fun j hj => ?_
      obtain ⟨ad, e1, h2⟩ := hr2.cell j _ (strs_get hj)
      cases e1
      rw [Addr.add_lit] at h2
      exact h2
    refine hc.mono ?_
    rintro e w' ⟨rfl, rfl⟩
    have e1 : Hid (Lib.containsS (l.take n) s = b) := Lib.hid (by rw [List.take_of_length_le (by rw [HL.out]; exact Nat.le_refl _)]; have := HS.out; simpa using this)
    clear hc hr2
    rw [e1.out]
    go_wp2
    go_ret
    exact ⟨rfl, HB2.out⟩

theorem infoStr : (Tryz.prog.info? 9).map (fun i => (i.zero, i.size, i.bytes)) = some (some (.string ⟨#[]⟩), 1, 16) := by kernel_rfl

def nowM : List ByteArray := [⟨#[91]⟩, ⟨#[40]⟩, ⟨#[92]⟩, ⟨#[46, 34]⟩]

set_option maxHeartbeats 400000 in
theorem Now_any (op : Int) (b : Bool) (w : World) (hb : nowR op = b) (ht : Tab w) :
    Calls Tryz.prog 33 #[.int .i64 op] w fun e w' => e = .returned (.bool b) ∧ Below w.heap.size w w' := by
  have HT := Lib.hid ht
  rw [← now_is] at hb
  have HS := Lib.hid hb
  clear ht hb
  go_enter Tryz.func33, Tryz.ntmps33
  go_wp2_with fail
  refine (control_any _ HT.out).mono ?_
  rintro e w1 ⟨rfl, ho, hb⟩
  have HO := Lib.hid ho
  have HB := Lib.hid hb
  have HT1 := Lib.hid (HT.out.below hb)
  clear ho hb
  go_wp2_with (refine wp_app (w0 := w) rfl (.tmp 4) (.tmp 5) 50 9 (.string ⟨#[]⟩) 1 16 rfl Tryz.underlying50 infoStr rfl (by decide) (by decide) w.heap.size _ ctlNames.length (strs ctlNames) rfl (HO.out.alloc _) (some ⟨w1.heap.size, 0, none⟩) 4 4 (strs nowM) rfl (rd_alloc _ _ _ _ _ _ _ _ rfl rfl (by decide) (by decide)) (strs_one _) (by rw [ctlNames_len]; decide) (by simp; exact Nat.le_succ_of_le HB.out.size) (HB.out.alloc HB.out.size _) ?_)
  intro v' w2 ho2 hb2 _
  obtain ⟨g, cap, rfl, hg1, hg2, hg3, hg4⟩ := own_form ho2 (by omega)
  obtain ⟨A, c, e1, hr⟩ := Rd.own ho2
  cases e1
  have HR : Hid (RdS w2 (some ⟨g, 0, none⟩) cap nowL) := Lib.hid (by
    have e : strs ctlNames ++ strs nowM = strs nowL := by simp [strs, nowL, nowM]
    rw [e] at hr
    exact hr)
  have HB2 := Lib.hid hb2
  have HT2 := Lib.hid (HT.out.below hb2)
  clear ho2 hb2 hr hg1 hg2 hg3 hg4
  go_wp2_with fail
  refine (among_any op g cap (ctlNames.length + 4) nowL b _ (by simp [nowL]) HS.out HR.out HT2.out).mono ?_
  rintro e w3 ⟨rfl, hb⟩
  have HB3 := Lib.hid (below_two HB2.out hb)
  clear hb
  go_wp2
  go_ret
  exact ⟨rfl, HB3.out⟩

end Go.Proofs.YtappfhjknihboaaGreatDoor


/- ops.table, ops.Find. -/
namespace Go.Proofs.YtappfhjknihboaaGreatDoor
open Go.RowKit Go.Maps Go.WideMaps

def key (s : ByteArray) : Lit := .string s.data.toList
theorem key_ne {a b : ByteArray} (h : a ≠ b) : key a ≠ key b := by
  intro e
  apply h
  simp only [key, Lit.string.injEq] at e
  apply ByteArray.ext
  exact Array.toList_inj.1 e
/-- The table after so many rounds. -/
def tabD : Nat → DataW Unit
  | 0 => .map []
  | k + 1 => (tabD k).put (key (nm k)) (.lit (.int .i64 ((k : Int) + 1)))
theorem tabD_map : ∀ k, IsMap (tabD k)
  | 0 => ⟨[], rfl⟩
  | k + 1 => by
    obtain ⟨es, h⟩ := tabD_map k
    rw [tabD, h]
    exact ⟨_, rfl⟩
theorem tabD_at (f : ByteArray) : ∀ k, k ≤ 137 → (tabD k).atKey (key f) (.lit (.int .i64 0)) = .lit (.int .i64 (if nmIdx f < k then (nmIdx f : Int) + 1 else 0))
  | 0, _ => by
    rw [if_neg (by omega)]
    rfl
  | k + 1, hk => by
    rw [tabD]
    by_cases h : f = nm k
    · subst h
      rw [atKey_put_same (tabD_map k) (by trivial), nm_idx k (by omega), if_pos (by omega)]
    · rw [atKey_put_other (key_ne h), tabD_at f k (by omega)]
      have : nmIdx f ≠ k := by
        intro e
        have := nmIdx_at (f := f) (by omega)
        rw [e] at this
        exact h this.symm
      by_cases h2 : nmIdx f < k
      · rw [if_pos h2, if_pos (by omega)]
      · rw [if_neg h2, if_neg (by omega)]

theorem keyed : Keyed Tryz.prog 9 := string_keyed Tryz.underlying9
theorem zeroI (w : World) : (zeroValue 3).run Tryz.prog w = .ok (.int .i64 0) w := by kernel_rfl
abbrev OwnT (w : World) (g n : Nat) : Prop := w.ownsMap Tryz.prog 9 (plainElem (H := Unit) Tryz.prog 3) g n (tabD n)

set_option maxHeartbeats 1000000 in
set_option maxRecDepth 100000 in
theorem table_any (w : World) (ht : Tab w) :
    Calls Tryz.prog 38 #[] w fun e w' => e = .returned (.map (some w.heap.size)) ∧ OwnT w' w.heap.size 137 ∧ Below w.heap.size w w' := by
  have HT := Lib.hid ht
  clear ht
  have hmm := @run_makeMap Tryz.prog
  go_enter Tryz.func38, Tryz.ntmps38
  go_wp2_with fail
  have HB := Lib.hid (below_lit w (.map #[] 0))
  have HT1 := Lib.hid (HT.out.below HB.out)
  have HO : Hid (OwnT (w.alloc (.map #[] 0)) w.heap.size 0) := Lib.hid (World.ownsMap_made _ _ _ _)
  refine (list_any _ HT1.out).mono ?_
  rintro e w1 ⟨rfl, hc, hb⟩
  have HC := Lib.hid hc
  have HB1 := Lib.hid (below_two HB.out hb)
  have HO1 : Hid (OwnT w1 w.heap.size 0) := Lib.hid (by
    obtain ⟨es, clock, h1, h2, h3, h4⟩ := HO.out
    exact ⟨es, clock, (hb.block _ (by simp)).trans h1, h2, h3, h4⟩)
  clear hc hb
  go_wp2_with fail
  go_loopw [7] (fun i wr => ∃ k : Nat, k ≤ 137 ∧ i = .int .i64 k ∧ Hid (OwnT wr w.heap.size k) ∧ Hid (Below w.heap.size w wr) ∧ Hid (w1.grownBy wr (some w.heap.size)))
    (fun i _ => 137 - (intOf i).toNat)
  case atStart => exact ⟨0, by omega, rfl, HO1, HB1, Lib.hid (World.grownBy.refl _ _)⟩
  case round =>
    obtain ⟨k, hk, rfl, HOW, HBW, HG⟩ := hrel
    by_cases hlt : k < 137
    · have hcx : wr.cell? ⟨w.heap.size + 1, k, none⟩ = some (.string (nm k)) := by
        have h := HC.out k hlt
        have e : (w.alloc (.map #[] 0)).heap.size = w.heap.size + 1 := by simp
        rw [e] at h
        exact HG.out.cell h (by simp)
      have hkey : keyOf Tryz.prog 9 (.string (nm k)) = some (key (nm k)) := keyOf_string_mk Tryz.underlying9 (by have := (nm_size k hlt).2; unfold maxLen; omega)
      generalize hs : nm k = s at hcx hkey
      have HS := Lib.hid hs
      clear hs
      go_wp2_with (at_mapUpdate; refine wpList_mapUpdate_own _ rfl _ _ _ 70 rfl 9 3 keyed Tryz.underlying70 _ w.heap.size k _ rfl HOW.out (by unfold maxLen; omega) _ _ _ rfl rfl hkey _ [] (plainElem_int Tryz.underlying3 (WalkArith.wf_i64 (by omega))) ?_)
      intro w2 hown1 hgrow1
      have R1 : Hid (OwnT w2 w.heap.size (k + 1)) := Lib.hid (by rw [← HS.out] at hown1; exact hown1)
      have R2 := Lib.hid (HBW.out.grown hgrow1 HBW.out.size (fun j hj => by cases hj; exact Nat.le_refl _))
      have R3 := Lib.hid (HG.out.trans hgrow1)
      clear hown1 hgrow1 hcx hkey
      go_wp2
      go_roundw
      case rel => exact ⟨k + 1, by omega, by go_num, R1, R2, R3⟩
      case measure => simp [intOf] <;> omega
    · obtain rfl : k = 137 := by omega
      go_wp2
      go_ret
      exact ⟨rfl, HOW.out, HBW.out⟩

theorem innerR_at {k : Nat} : innerR ((k : Int) + 1) = decide (1 ≤ k ∧ k ≤ 10) := by
  rw [innerR]
  simp only [decide_eq_decide]
  omega

set_option maxHeartbeats 1000000 in
set_option maxRecDepth 100000 in
theorem Find_any (s : ByteArray) (r : Int) (w : World) (hr : findR (foldB s) = r) (hs : s.size ≤ 140737488355327) (ht : Tab w) :
    Calls Tryz.prog 17 #[.string s] w fun e w' => e = .returned (.int .i64 r) ∧ Below w.heap.size w w' := by
  have HT := Lib.hid ht
  have HR := Lib.hid hr
  clear ht hr
  go_enter Tryz.func17, Tryz.ntmps17
  go_wp2_with fail
  refine (table_any _ HT.out).mono ?_
  rintro e w1 ⟨rfl, ho, hb⟩
  have HO := Lib.hid ho
  have HB := Lib.hid hb
  have HT1 := Lib.hid (HT.out.below hb)
  clear ho hb
  go_wp2_with fail
  refine (Fold_any s _ hs).mono ?_
  rintro e w2 ⟨rfl, hb⟩
  have HO2 : Hid (OwnT w2 w.heap.size 137) := Lib.hid (by
    obtain ⟨es, clock, h1, h2, h3, h4⟩ := HO.out
    exact ⟨es, clock, (hb.block _ ((Array.getElem?_eq_some_iff.1 h1).1)).trans h1, h2, h3, h4⟩)
  have HB2 := Lib.hid (below_two HB.out hb)
  have HT2 := Lib.hid (HT1.out.below hb)
  clear hb
  have hkey : keyOf Tryz.prog 9 (.string (foldB s)) = some (key (foldB s)) := keyOf_string_mk Tryz.underlying9 (by rw [foldB_size]; unfold maxLen; omega)
  have hat := tabD_at (foldB s) 137 (by omega)
  have hle := nmIdx_le (foldB s)
  generalize foldB s = f at hkey hat hle HR
  have HA := Lib.hid hat
  clear hat
  go_wp2_with (at_lookup; refine wpList_lookup_own_int _ rfl _ _ 70 rfl 9 3 .i64 keyed Tryz.underlying70 Tryz.underlying3 (zeroI _) w.heap.size 137 _ rfl HO2.out _ _ rfl hkey ?_)
  intro c hc _
  have e1 : c = if nmIdx f < 137 then (nmIdx f : Int) + 1 else 0 := by
    have := HA.out.symm.trans hc
    simpa using this.symm
  have HE := Lib.hid e1
  clear hc e1 hkey
  obtain ⟨b, hb⟩ : ∃ b, innerR c = b := ⟨_, rfl⟩
  have HI := Lib.hid hb
  clear hb
  go_wp2_with fail
  refine (Inner_any _ _ _ HI.out HT2.out).mono ?_
  rintro e w3 ⟨rfl, hb⟩
  have HB3 := Lib.hid (below_two HB2.out hb)
  clear hb
  cases b with
  | true =>
    obtain rfl : r = 0 := by
      rw [← HR.out, findR, if_neg]
      rintro ⟨h1, h2⟩
      have h3 := HI.out
      rw [HE.out, if_pos h1, h2] at h3
      cases h3
    go_wp2
    go_ret
    exact ⟨rfl, HB3.out⟩
  | false =>
    obtain rfl : c = r := by
      rw [← HR.out, findR]
      have h3 := HI.out
      have h4 := HE.out
      by_cases h1 : nmIdx f < 137
      · rw [if_pos h1] at h4
        rw [h4] at h3
        rw [if_pos ⟨h1, h3⟩, h4]
      · rw [if_neg h1] at h4
        rw [if_neg (fun h => h1 h.1), h4]
    go_wp2
    go_ret
    exact ⟨rfl, HB3.out⟩
end Go.Proofs.YtappfhjknihboaaGreatDoor
