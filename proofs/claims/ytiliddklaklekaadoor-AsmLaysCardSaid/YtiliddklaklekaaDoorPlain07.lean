
/- Plain words on names: no program in sight. -/
import Derived.Test.YtiliddklaklekaaDoorPlain06
namespace Go.Proofs.YtiliddklaklekaaDoor
open Go.RowKit

/-- A letter as a capital one. -/
def capB (c : UInt8) : UInt8 := if 97 ≤ c.toNat ∧ c.toNat ≤ 122 then UInt8.ofNat (c.toNat - 32) else c
def capI (c : Int) : Int := if 97 ≤ c ∧ c ≤ 122 then c - 32 else c
theorem capI_eq (c : UInt8) : capI (c.toNat : Int) = ((capB c).toNat : Int) := by
  unfold capI capB
  have := c.toNat_lt
  by_cases h : 97 ≤ c.toNat ∧ c.toNat ≤ 122
  · rw [if_pos h, if_pos (by omega)]
    simp
    omega
  · rw [if_neg h, if_neg (by omega)]
theorem capB_twice (c : UInt8) : capB (capB c) = capB c := by
  unfold capB
  by_cases h : 97 ≤ c.toNat ∧ c.toNat ≤ 122
  · rw [if_pos h, if_neg]
    simp
    omega
  · rw [if_neg h, if_neg h]
/-- A name in capital letters. -/
def foldL (s : ByteArray) : List UInt8 := s.data.toList.map capB
def foldB (s : ByteArray) : ByteArray := ⟨(foldL s).toArray⟩
theorem foldL_len (s : ByteArray) : (foldL s).length = s.size := by simp [foldL]
theorem foldB_size (s : ByteArray) : (foldB s).size = s.size := by
  show (foldL s).toArray.size = _
  rw [List.size_toArray, foldL_len]
theorem foldB_twice (s : ByteArray) : foldB (foldB s) = foldB s := by
  unfold foldB
  congr 2
  simp [foldL, Function.comp_def, capB_twice]
theorem foldL_snoc (s : ByteArray) (k : Nat) (h : k < s.size) : (foldL s).take (k + 1) = (foldL s).take k ++ [capB (s[k]'h)] := by
  rw [List.take_succ_eq_append_getElem (by rw [foldL_len]; exact h)]
  simp [foldL]
  rfl
end Go.Proofs.YtiliddklaklekaaDoor
