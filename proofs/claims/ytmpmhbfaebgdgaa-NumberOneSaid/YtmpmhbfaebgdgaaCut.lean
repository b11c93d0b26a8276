/- strings.CutPrefix (the kit's shelf's contract, turned to this seat), and number.Take's closure. -/
import Derived.Test.YtmpmhbfaebgdgaaFigure
import Derived.Lib.Strings
import Derived.Lib.Slices
import Derived.Lib.Walk
namespace Go.Proofs.Ytmpmhbfaebgdgaa
open Go.RowKit

set_option maxHeartbeats 1000000 in
theorem strings_CutPrefix (s p : ByteArray) (w : World) :
    Calls Try.prog 16 #[.string s, .string p] w fun e w' => e = .returned (.tuple #[.string ⟨(Lib.trimPrefix s.data.toList p.data.toList).toArray⟩, .bool (Lib.hasPrefix s.data.toList p.data.toList)]) ∧ w = w' := by
  go_enter Try.func16, Try.ntmps16
  go_wp2
  · have h2 : (!((s.extract 0 p.size).toList == p.toList)) = true := by assumption
    have h3 : (decide (p.size ≤ s.size) && ((s.extract 0 p.size).toList == p.toList)) = false := by
      have : ((s.extract 0 p.size).toList == p.toList) = false := by simpa using h2
      rw [this]
      simp
    go_ret2
    refine ⟨?_, rfl⟩
    rw [Lib.trimPrefix_miss s p h3, ← Lib.hasPrefix_raw, h3]
    rfl
  · have h1 : p.size ≤ s.size := by assumption
    have h2 : (!((s.extract 0 p.size).toList == p.toList)) = false := by assumption
    have h2' : ((s.extract 0 p.size).toList == p.toList) = true := by simpa using h2
    go_ret2
    refine ⟨?_, rfl⟩
    rw [Lib.trimPrefix_hit s p h1 h2', ← Lib.hasPrefix_raw, h2', decide_eq_true h1]
    rfl
  · have h1 : ¬ p.size ≤ s.size := by assumption
    have h3 : (decide (p.size ≤ s.size) && ((s.extract 0 p.size).toList == p.toList)) = false := by simp [h1]
    go_ret2
    refine ⟨?_, rfl⟩
    rw [Lib.trimPrefix_miss s p h3, ← Lib.hasPrefix_raw, h3]
    rfl

/-- Does it begin with that byte; what is left. -/
def begins (s : ByteArray) (c : Int) : Bool := decide (0 < s.size) && decide (bt s 0 = c)
def cutS (s : ByteArray) (c : Int) : ByteArray := if begins s c then s.extract 1 s.size else s
theorem begins_lib (s : ByteArray) (c : UInt8) : Lib.hasPrefix s.data.toList [c] = begins s c.toNat := by
  unfold begins bt
  have hsz : s.size = s.data.toList.length := by simp
  cases h : s.data.toList with
  | nil =>
    rw [h] at hsz
    simp at hsz
    simp [hsz, Lib.hasPrefix]
  | cons x r =>
    rw [h] at hsz
    have h0 : 0 < s.size := by rw [hsz]; simp
    have hx : s[0]'h0 = x := by
      show s.data[0] = x
      rw [← Array.getElem_toList]
      simp [h]
    rw [dif_pos h0, hx]
    simp only [h0, decide_true, Bool.true_and]
    have e : Lib.hasPrefix (x :: r) [c] = (c == x) := by simp [Lib.hasPrefix, List.isPrefixOf]
    rw [e, Bool.eq_iff_iff, beq_iff_eq, decide_eq_true_eq]
    constructor
    · intro h
      rw [h]
    · intro h
      exact UInt8.toNat_inj.1 (by omega)
theorem cutS_lib (s : ByteArray) (c : UInt8) : (⟨(Lib.trimPrefix s.data.toList [c]).toArray⟩ : ByteArray) = cutS s c.toNat := by
  unfold Lib.trimPrefix cutS
  rw [begins_lib]
  split
  · apply ByteArray.ext
    apply Array.toList_inj.1
    rw [ext_list]
    simp only [List.length_singleton]
    rw [List.take_of_length_le (by simp)]
  · rfl

set_option maxHeartbeats 1000000 in
theorem cut_any (s : ByteArray) (c : UInt8) (k : Int) (p : Addr) (b : Bool) (r : ByteArray) (w : World) (hk : (c.toNat : Int) = k) (hb : begins s k = b) (hr : cutS s k = r) (hp : w.cell? p = some (.string s)) (hf : w.frozen? p = false) :
    Calls Try.prog 15 #[.string ⟨#[c]⟩, .pointer (some p)] w fun e w' => e = .returned (.bool b) ∧ w' = w.setCell p (.string r) := by
  subst hk
  have h1 := strings_CutPrefix s ⟨#[c]⟩
  have e1 : Lib.hasPrefix s.data.toList (⟨#[c]⟩ : ByteArray).data.toList = b := by rw [← hb]; exact begins_lib s c
  have e2 : (⟨(Lib.trimPrefix s.data.toList (⟨#[c]⟩ : ByteArray).data.toList).toArray⟩ : ByteArray) = r := by rw [← hr]; exact cutS_lib s c
  simp only [e1, e2] at h1
  have H1 := Lib.hid h1
  clear h1 e1 e2 hb hr
  go_enter Try.func15, Try.ntmps15
  go_wp2_with fail
  refine (H1.out w).mono ?_
  rintro e w' ⟨rfl, rfl⟩
  go_wp2
  go_ret
  exact ⟨rfl, rfl⟩
end Go.Proofs.Ytmpmhbfaebgdgaa
