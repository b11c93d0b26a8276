
/- Plain words on a source: no program in sight. -/
import Derived.WalkKit
import Derived.RowKit
import Derived.Lib.Bytealg
import Derived.Laws.RangeAny
import Derived.Laws.RangeString
import Derived.Lib.Hide
namespace Go.Proofs.YtiliddklaklekaaDoor
open Go.RowKit

/-- A text's byte. -/
def bt (s : ByteArray) (k : Nat) : Int := if h : k < s.size then ((s[k]'h).toNat : Int) else 0
theorem get_bt (s : ByteArray) : ∀ (n : Nat) (h : n < s.size), ((s[n]'h).toNat : Int) = bt s n := fun n h => by unfold bt; rw [dif_pos h]
theorem bt_range (s : ByteArray) (k : Nat) : 0 ≤ bt s k ∧ bt s k < 256 := by
  unfold bt
  split
  · rename_i h
    have := (s[k]'h).toNat_lt
    omega
  · omega

/-- The first place from i on at which p no longer holds, or the end. -/
def skip (p : Int → Bool) (s : ByteArray) (i : Nat) : Nat := if i < s.size then (if p (bt s i) then skip p s (i + 1) else i) else i
  termination_by s.size - i
theorem skip_end {p : Int → Bool} {s : ByteArray} {i : Nat} (h : ¬ i < s.size) : skip p s i = i := by rw [skip, if_neg h]
theorem skip_yes {p : Int → Bool} {s : ByteArray} {i : Nat} (h : i < s.size) (hp : p (bt s i) = true) : skip p s i = skip p s (i + 1) := by rw [skip, if_pos h, if_pos hp]
theorem skip_no {p : Int → Bool} {s : ByteArray} {i : Nat} (h : i < s.size) (hp : p (bt s i) = false) : skip p s i = i := by rw [skip, if_pos h, if_neg (by simp [hp])]
theorem skip_spec (p : Int → Bool) (s : ByteArray) : ∀ (d i : Nat), s.size - i = d → i ≤ s.size →
    i ≤ skip p s i ∧ skip p s i ≤ s.size ∧ (∀ k, i ≤ k → k < skip p s i → p (bt s k) = true) ∧ (skip p s i < s.size → p (bt s (skip p s i)) = false)
  | 0, i, hd, hi => by
    rw [skip_end (by omega)]
    exact ⟨Nat.le_refl _, hi, fun k h1 h2 => by omega, fun h => by omega⟩
  | d + 1, i, hd, hi => by
    have hlt : i < s.size := by omega
    cases hp : p (bt s i) with
    | false => rw [skip_no hlt hp]; exact ⟨Nat.le_refl _, hi, fun k h1 h2 => by omega, fun _ => hp⟩
    | true =>
      rw [skip_yes hlt hp]
      obtain ⟨h1, h2, h3, h4⟩ := skip_spec p s d (i + 1) (by omega) (by omega)
      refine ⟨by omega, h2, fun k hk1 hk2 => ?_, h4⟩
      rcases Nat.eq_or_lt_of_le hk1 with rfl | hk
      · exact hp
      · exact h3 k (by omega) hk2
theorem skip_ge {p : Int → Bool} {s : ByteArray} {i : Nat} (h : i ≤ s.size) : i ≤ skip p s i := (skip_spec p s _ i rfl h).1
theorem skip_le {p : Int → Bool} {s : ByteArray} {i : Nat} (h : i ≤ s.size) : skip p s i ≤ s.size := (skip_spec p s _ i rfl h).2.1
theorem skip_in {p : Int → Bool} {s : ByteArray} {i : Nat} (h : i ≤ s.size) : ∀ k, i ≤ k → k < skip p s i → p (bt s k) = true := (skip_spec p s _ i rfl h).2.2.1
theorem skip_at {p : Int → Bool} {s : ByteArray} {i : Nat} (h : i ≤ s.size) : skip p s i < s.size → p (bt s (skip p s i)) = false := (skip_spec p s _ i rfl h).2.2.2

/-- A place, as it must be. -/
def bound (s : ByteArray) (i : Int) : Nat := min i.toNat s.size
theorem bound_le (s : ByteArray) (i : Int) : bound s i ≤ s.size := Nat.min_le_right _ _

def isBlank (c : Int) : Bool := decide (c ≤ 32)
def notBlank (c : Int) : Bool := decide (32 < c)
def isNot (c : Int) (x : Int) : Bool := !(x == c)

def tokA (s : ByteArray) (i : Int) : Nat := skip isBlank s (bound s i)
def tokB (s : ByteArray) (i : Int) : Nat := skip notBlank s (tokA s i)
theorem tokA_le (s : ByteArray) (i : Int) : tokA s i ≤ s.size := skip_le (bound_le _ _)
theorem tokAB (s : ByteArray) (i : Int) : tokA s i ≤ tokB s i := skip_ge (tokA_le _ _)
theorem tokB_le (s : ByteArray) (i : Int) : tokB s i ≤ s.size := skip_le (tokA_le _ _)

/-- Where what stands ahead of a byte begins. -/
def untilA (s : ByteArray) (i : Int) : Nat := if bound s i < s.size ∧ bt s (bound s i) ≤ 32 then bound s i + 1 else bound s i
theorem untilA_le (s : ByteArray) (i : Int) : untilA s i ≤ s.size := by
  have := bound_le s i
  unfold untilA
  split <;> omega
def untilB (s : ByteArray) (i c : Int) : Nat := skip (isNot c) s (untilA s i)
/-- Behind a byte, or the end. -/
def behind (s : ByteArray) (k : Nat) : Nat := if k < s.size then k + 1 else s.size
def lineR (s : ByteArray) (i : Int) : Nat := behind s (skip (isNot 10) s (bound s i))

/-- A place's line, and where that begins. -/
def lineOf (s : ByteArray) : Nat → Nat
  | 0 => 1
  | n + 1 => if bt s n = 10 then lineOf s n + 1 else lineOf s n
def beginOf (s : ByteArray) : Nat → Nat
  | 0 => 0
  | n + 1 => if bt s n = 10 then n + 1 else beginOf s n
theorem beginOf_le (s : ByteArray) : ∀ n, beginOf s n ≤ n
  | 0 => Nat.le_refl _
  | n + 1 => by
    have := beginOf_le s n
    unfold beginOf
    split <;> omega
theorem lineOf_le (s : ByteArray) : ∀ n, 1 ≤ lineOf s n ∧ lineOf s n ≤ n + 1
  | 0 => ⟨Nat.le_refl _, Nat.le_refl _⟩
  | n + 1 => by
    have := lineOf_le s n
    unfold lineOf
    split <;> omega

/-- strings.IndexByte, in these words. -/
theorem indexByte_skip (s : ByteArray) (c : UInt8) : ∀ (d i : Nat), s.size - i = d → i ≤ s.size →
    Lib.indexByte (s.data.toList.drop i) c = if skip (isNot c.toNat) s i < s.size then ((skip (isNot c.toNat) s i - i : Nat) : Int) else -1
  | 0, i, hd, hi => by
    rw [skip_end (by omega), if_neg (by omega), List.drop_eq_nil_of_le (by rw [Array.length_toList]; exact (by omega : s.size ≤ i))]
    rfl
  | d + 1, i, hd, hi => by
    have hlt : i < s.size := by omega
    have hd' : s.data.toList.drop i = s[i]'hlt :: s.data.toList.drop (i + 1) := by
      rw [List.drop_eq_getElem_cons (by rw [Array.length_toList]; exact hlt)]
      rfl
    have hb : bt s i = ((s[i]'hlt).toNat : Int) := (get_bt s i hlt).symm
    rw [hd', Lib.indexByte, indexByte_skip s c d (i + 1) (by omega) (by omega)]
    by_cases he : s[i]'hlt = c
    · have hp : isNot c.toNat (bt s i) = false := by rw [hb, he]; simp [isNot]
      rw [skip_no hlt hp, if_pos (by simp [he]), if_pos hlt]
      simp
    · have hp : isNot c.toNat (bt s i) = true := by
        rw [hb]
        simp only [isNot, Bool.not_eq_true', beq_eq_false_iff_ne, ne_eq]
        intro hc
        exact he (UInt8.toNat_inj.1 (by omega))
      rw [skip_yes hlt hp, if_neg (by simp [he])]
      have hge := skip_ge (p := isNot c.toNat) (s := s) (i := i + 1) (by omega)
      by_cases hs : skip (isNot c.toNat) s (i + 1) < s.size
      · rw [if_pos hs, if_pos hs, if_neg (by simp <;> omega)]
        omega
      · rw [if_neg hs, if_neg hs]
        simp

/-- A letter that takes more than one byte has no byte below 128 behind its first one. -/
theorem decode_tail (s : ByteArray) (i k : Nat) (h1 : i < k) (h2 : k < i + (Utf8.decode s i).2) : k < s.size ∧ 128 ≤ bt s k := by
  have key : ∀ m, (decide (i + m < s.size) && (s.get! (i + m)).toNat / 64 == 2) = true → i + m < s.size ∧ 128 ≤ bt s (i + m) := by
    intro m hm
    simp only [Bool.and_eq_true, decide_eq_true_eq, beq_iff_eq] at hm
    obtain ⟨h, hq⟩ := hm
    refine ⟨h, ?_⟩
    have e : s.get! (i + m) = s[i + m]'h := by
      simp [ByteArray.get!, getElem!_pos, h]
      rfl
    rw [← get_bt s _ h, ← e]
    omega
  obtain ⟨m, rfl⟩ : ∃ m, k = i + m := ⟨k - i, by omega⟩
  simp only [Utf8.decode] at h2
  split at h2
  · simp at h2; omega
  · split at h2
    · rename_i hc
      simp only [Bool.and_eq_true] at hc
      split at h2
      · obtain rfl : m = 1 := by simp at h2; omega
        exact key 1 (by simpa using hc.2)
      · simp at h2; omega
    · split at h2
      · rename_i hc
        simp only [Bool.and_eq_true] at hc
        split at h2
        · have : m = 1 ∨ m = 2 := by simp at h2; omega
          rcases this with rfl | rfl
          · exact key 1 (by simpa using hc.1.2)
          · exact key 2 (by simpa using hc.2)
        · simp at h2; omega
      · split at h2
        · rename_i hc
          simp only [Bool.and_eq_true] at hc
          split at h2
          · have : m = 1 ∨ m = 2 ∨ m = 3 := by simp at h2; omega
            rcases this with rfl | rfl | rfl
            · exact key 1 (by simpa using hc.1.1.2)
            · exact key 2 (by simpa using hc.1.2)
            · exact key 3 (by simpa using hc.2)
          · simp at h2; omega
        · simp at h2; omega

theorem ext_list (s : ByteArray) (a b : Nat) : (s.extract a b).data.toList = (s.data.toList.drop a).take (b - a) := by
  rw [ByteArray.data_extract, Array.toList_extract, List.extract_eq_take_drop]
theorem bytes_ext {s t : ByteArray} (h : s.data.toList = t.data.toList) : s = t := by
  cases s; cases t
  congr
  exact Array.toList_inj.1 h
theorem ext_size (s : ByteArray) (a b : Nat) (h : b ≤ s.size) : (s.extract a b).size = b - a := by
  rw [ByteArray.size_extract, Nat.min_eq_left h]
theorem ext_ext (s : ByteArray) (a b c d : Nat) (h1 : d ≤ b - a) : (s.extract a b).extract c d = s.extract (a + c) (a + d) := by
  apply bytes_ext
  rw [ext_list, ext_list, ext_list, List.drop_take, List.drop_drop, List.take_take]
  congr 1
  omega
theorem bt_list (s : ByteArray) (k : Nat) : bt s k = (((s.data.toList[k]?).getD 0).toNat : Int) := by
  unfold bt
  by_cases h : k < s.size
  · rw [dif_pos h, List.getElem?_eq_getElem (by rw [Array.length_toList]; exact h)]
    rfl
  · rw [dif_neg h, List.getElem?_eq_none (by rw [Array.length_toList]; exact (by omega : s.size ≤ k))]
    rfl
theorem bt_ext (s : ByteArray) (a b k : Nat) (h : a + k < b) : bt (s.extract a b) k = bt s (a + k) := by
  rw [bt_list, bt_list, ext_list, List.getElem?_take, if_pos (by omega), List.getElem?_drop]
end Go.Proofs.YtiliddklaklekaaDoor
