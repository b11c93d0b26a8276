
/- The plain laws of memory. -/
import Derived.Test.YtappfhjknihboaaGreatDoorMC
namespace Go.Proofs.YtappfhjknihboaaGreatDoor.L03
open Go.RowKit

theorem cellE_zero {n : Nat} {i : Int} (h : cellE n i = 0) : ∃ k : Nat, i = k ∧ k + 8 ≤ n ∧ k % 8 = 0 := by
  unfold cellE at h
  split at h
  · omega
  · split at h
    · exact ⟨i.toNat, by omega, by omega, by omega⟩
    · omega
theorem setC_zero {l : List Int} {k : Nat} {v : Int} (h : cellE l.length k = 0) : setC l k v = splice l k (bytesOf v 8) := by
  rw [setC, if_pos h, Int.toNat_natCast]
theorem setC_length {l : List Int} {i v : Int} (h : cellE l.length i = 0) : (setC l i v).length = l.length := by
  obtain ⟨k, rfl, hk, _⟩ := cellE_zero h
  rw [setC_zero h, length_splice _ _ _ (by rw [bytesOf_length]; omega)]
theorem isB_splice {l r : List Int} (hl : isB l) (hr : isB r) (i : Nat) : isB (splice l i r) := isB_append (isB_take hl _) (isB_append hr (isB_drop hl _))
theorem isB_setC {l : List Int} (hb : isB l) (i v : Int) : isB (setC l i v) := by
  unfold setC
  split
  · exact isB_splice hb (bytesOf_isB _ _) _
  · intro x hx; simp at hx
theorem isB_setB {l : List Int} (hb : isB l) (i v : Int) : isB (setB l i v) := by
  unfold setB
  split
  · exact isB_splice hb (fun x hx => by simp at hx; omega) _
  · intro x hx; simp at hx

theorem splice_mid {l ys : List Int} {k : Nat} (h : k + ys.length ≤ l.length) : ((splice l k ys).drop k).take ys.length = ys := by
  simp only [splice]
  rw [List.drop_append_of_le_length (by simp; omega), List.drop_take]
  simp
theorem splice_again {l ys zs : List Int} {k : Nat} (h : k + ys.length ≤ l.length) (e : zs.length = ys.length) : splice (splice l k ys) k zs = splice l k zs := by
  simp only [splice]
  rw [e, List.take_append_of_le_length (by simp; omega), List.take_take, Nat.min_self]
  congr 2
  rw [← List.append_assoc, List.drop_append_of_le_length (by simp; omega)]
  rw [List.drop_eq_nil_of_le (by simp; omega)]
  rfl
theorem splice_self {l : List Int} {k m : Nat} (h : k + m ≤ l.length) : splice l k ((l.drop k).take m) = l := by
  have e : ((l.drop k).take m).length = m := by simp; omega
  simp only [splice]
  rw [e, ← List.drop_drop, List.take_append_drop, List.take_append_drop]

/-- What was set is there. -/
theorem cellR_setC {l : List Int} {i v : Int} (h : cellE l.length i = 0) (h0 : -9223372036854775808 ≤ v) (h1 : v ≤ 9223372036854775807) : cellR (setC l i v) i = v := by
  have hl := setC_length (v := v) h
  obtain ⟨k, rfl, hk, h8⟩ := cellE_zero h
  have e : ((splice l k (bytesOf v 8)).drop k).take 8 = bytesOf v 8 := by
    have := splice_mid (l := l) (ys := bytesOf v 8) (k := k) (by rw [bytesOf_length]; omega)
    rwa [bytesOf_length] at this
  rw [cellR, hl, if_neg (by omega), if_pos (by omega), setC_zero h, Int.toNat_natCast, cellAt, e, le_bytesOf]
  show wrap64 (v % 18446744073709551616) = v
  unfold wrap64
  omega

/-- Set to what it was, all is as before. -/
theorem setC_back {l : List Int} (hb : isB l) {i v : Int} (h : cellE l.length i = 0) : setC (setC l i v) i (cellR l i) = l := by
  have hl := setC_length (v := v) h
  have h' : cellE (setC l i v).length i = 0 := by rw [hl]; exact h
  obtain ⟨k, rfl, hk, h8⟩ := cellE_zero h
  have eb : bytesOf (cellR l k) 8 = (l.drop k).take 8 := by
    rw [cellR, if_neg (by omega), if_pos (by omega), Int.toNat_natCast]
    have hq := bytesOf_le ((l.drop k).take 8) 8 (isB_take (isB_drop hb k) 8) (by simp; omega)
    have hbd := cellAt_bound hb k
    have hm : ∀ (n : Nat) (x : Int), bytesOf (x - 256 ^ n) n = bytesOf x n := by
      intro n
      induction n with
      | zero => intro x; rfl
      | succ n ih =>
        intro x
        rw [bytesOf, bytesOf, Int.pow_succ, ← ih (x / 256)]
        generalize (256 : Int) ^ n = P
        rw [show (x - P * 256) % 256 = x % 256 by omega, show (x - P * 256) / 256 = x / 256 - P by omega]
    by_cases hs : cellAt l k < 9223372036854775808
    · rw [show wrap64 (cellAt l k) = cellAt l k by unfold wrap64; omega]
      exact hq
    · rw [show wrap64 (cellAt l k) = cellAt l k - 256 ^ 8 by show _ = cellAt l k - 18446744073709551616; unfold wrap64; omega, hm]
      exact hq
  rw [setC_zero (l := setC l k v) h', setC_zero h, splice_again (by rw [bytesOf_length]; omega) (by rw [bytesOf_length, bytesOf_length]), eb, splice_self hk]

theorem getD_splice {l ys : List Int} {k : Nat} (h : k + ys.length ≤ l.length) (j : Nat) :
    (splice l k ys).getD j 0 = if k ≤ j ∧ j < k + ys.length then ys.getD (j - k) 0 else l.getD j 0 := by
  simp only [splice, List.getD_eq_getElem?_getD]
  by_cases h1 : j < k
  · rw [if_neg (by omega), List.getElem?_append_left (by simp; omega), List.getElem?_take, if_pos h1]
  · rw [List.getElem?_append_right (by simp; omega)]
    have e : j - (l.take k).length = j - k := by simp; omega
    rw [e]
    by_cases h2 : j < k + ys.length
    · rw [if_pos ⟨by omega, h2⟩, List.getElem?_append_left (by omega)]
    · rw [if_neg (by omega), List.getElem?_append_right (by omega), List.getElem?_drop]
      congr 2
      omega

theorem byteR_in {l : List Int} {m : Nat} (h : m < l.length) : byteR l m = l.getD m 0 := by
  rw [byteR, if_neg (by omega), Int.toNat_natCast]
/-- A cell that is set turns its eight bytes alone; all of -1 are 255. -/
theorem byteR_setC {l : List Int} {i j : Int} (h : cellE l.length i = 0) (hj : byteE l.length j = 0) :
    byteR (setC l i (-1)) j = if i ≤ j ∧ j < i + 8 then 255 else byteR l j := by
  have hl := setC_length (v := -1) h
  have hj' : 0 ≤ j ∧ j < l.length := by unfold byteE at hj; split at hj <;> omega
  obtain ⟨m, rfl⟩ := Int.eq_ofNat_of_zero_le hj'.1
  obtain ⟨k, rfl, hk, h8⟩ := cellE_zero h
  rw [byteR_in (by omega), byteR_in (by omega), setC_zero h, getD_splice (by rw [bytesOf_length]; omega), bytesOf_length]
  have hb : ∀ q, q < 8 → (bytesOf (-1) 8).getD q 0 = 255 := by decide
  by_cases hc : k ≤ m ∧ m < k + 8
  · rw [if_pos hc, if_pos (by omega), hb _ (by omega)]
  · rw [if_neg hc, if_neg (by omega)]
theorem setB_length {l : List Int} {i v : Int} (h : byteE l.length i = 0) : (setB l i v).length = l.length := by
  have hj' : 0 ≤ i ∧ i < l.length := by unfold byteE at h; split at h <;> omega
  rw [setB, if_pos h, length_splice _ _ _ (by simp; omega)]
theorem byteR_setB {l : List Int} {i j : Int} (h : byteE l.length i = 0) (hj : byteE l.length j = 0) :
    byteR (setB l i 255) j = if j = i then 255 else byteR l j := by
  have hl := setB_length (v := 255) h
  have hj' : 0 ≤ j ∧ j < l.length := by unfold byteE at hj; split at hj <;> omega
  have hi' : 0 ≤ i ∧ i < l.length := by unfold byteE at h; split at h <;> omega
  obtain ⟨m, rfl⟩ := Int.eq_ofNat_of_zero_le hj'.1
  obtain ⟨k, rfl⟩ := Int.eq_ofNat_of_zero_le hi'.1
  rw [byteR_in (by omega), byteR_in (by omega), setB, if_pos h, Int.toNat_natCast, getD_splice (by simp; omega)]
  by_cases hc : m = k
  · subst hc
    rw [if_pos (by simp), if_pos rfl]
    simp
  · rw [if_neg (by simp; omega), if_neg (by omega)]
theorem byteE_zero_of {n : Nat} {i : Int} (h : ¬ byteE n i = 0) : byteE n i = -9 := by
  unfold byteE at h ⊢
  split at h <;> simp_all
end Go.Proofs.YtappfhjknihboaaGreatDoor.L03
