
/- What package asm makes of states: plain words. -/
import Derived.Test.YtiliddklaklekaaDoorState
import Derived.Test.YtiliddklaklekaaDoorMem3
namespace Go.Proofs.YtiliddklaklekaaDoor
open Go.RowKit

/-- An address, or the next one that is a multiple of 8. -/
def upR (at_ : Int) : Int := wrap64 ((at_ + 7) / 8 * 8)
theorem upR_in {n : Int} (h0 : 0 ≤ n) (h1 : n ≤ 1000000) : upR n = (n + 7) / 8 * 8 := by
  unfold upR wrap64
  omega
/-- Patch: what is thrown, and the state then. -/
def patchS (s : Ps) (at_ v : Int) : Ps := if cellE s.mem.length at_ = 0 then { s with mem := setC s.mem at_ v } else zeroP
def patchE (s : Ps) (at_ : Int) : Int := cellE s.mem.length at_
def commaE (s : Ps) : Int := if (s.mem.length : Int) - 8 < s.here then -8 else cellE s.mem.length s.here
def commaS (s : Ps) (v : Int) : Ps := if commaE s = 0 then { s with mem := setC s.mem s.here v, here := s.here + 8 } else zeroP
/-- One cell emitted, where it can be. -/
def layS (s : Ps) (v : Int) : Ps := { commaS s v with spots := (s.spots.filter fun x => decide (x.1 < s.here)) ++ [(s.here, s.tok)] }
def emitS : Ps → List Int → Ps
  | s, [] => s
  | s, v :: r => if commaE s = 0 then emitS (layS s v) r else zeroP
def emitE : Ps → List Int → Int
  | _, [] => 0
  | s, v :: r => if commaE s = 0 then emitE (layS s v) r else commaE s

theorem cellE_zero {n : Nat} {i : Int} (h : cellE n i = 0) : 0 ≤ i ∧ i + 8 ≤ n ∧ i % 8 = 0 := by
  unfold cellE at h
  split at h
  · cases h
  · split at h
    · omega
    · cases h
theorem cellE_some (n : Nat) (i : Int) : cellE n i = 0 ∨ cellE n i = -9 ∨ cellE n i = -23 := by
  unfold cellE
  split
  · exact .inr (.inl rfl)
  · split
    · exact .inl rfl
    · exact .inr (.inr rfl)
theorem commaE_zero {s : Ps} (h : commaE s = 0) : cellE s.mem.length s.here = 0 := by
  unfold commaE at h
  split at h
  · cases h
  · exact h
theorem setC_len {l : List Int} {i v : Int} (h : cellE l.length i = 0) : (setC l i v).length = l.length := by
  obtain ⟨h1, h2, h3⟩ := cellE_zero h
  rw [setC, if_pos h, length_splice]
  rw [bytesOf_length]
  omega
theorem setC_isB {l : List Int} {i v : Int} (hb : isB l) : isB (setC l i v) := by
  unfold setC
  split
  · intro x hx
    unfold splice at hx
    rcases List.mem_append.1 hx with h | h
    · exact hb x (List.mem_of_mem_take h)
    · rcases List.mem_append.1 h with h | h
      · exact bytesOf_isB _ _ x h
      · exact hb x (List.mem_of_mem_drop h)
  · intro x hx
    cases hx
theorem patchS_ok {s : Ps} {i v : Int} (h : patchE s i = 0) : patchS s i v = { s with mem := setC s.mem i v } := by
  unfold patchS
  rw [if_pos (show cellE s.mem.length i = 0 from h)]
theorem patchS_no {s : Ps} {i v : Int} (h : patchE s i ≠ 0) : patchS s i v = zeroP := by
  unfold patchS
  rw [if_neg (show ¬ cellE s.mem.length i = 0 from h)]
theorem patchS_here {s : Ps} {v : Int} (h : patchE s s.here = 0) : (patchS s s.here v).here = s.here := by rw [patchS_ok h]
theorem commaS_ok {s : Ps} {v : Int} (h : commaE s = 0) : commaS s v = { patchS s s.here v with here := s.here + 8 } := by
  rw [patchS_ok (show patchE s s.here = 0 from commaE_zero h), commaS, if_pos h]
theorem commaS_no {s : Ps} {v : Int} (h : commaE s ≠ 0) : commaS s v = zeroP := by rw [commaS, if_neg h]
theorem commaS_mem {s : Ps} {v : Int} (h : commaE s = 0) : (commaS s v).mem.length = s.mem.length := by
  rw [commaS, if_pos h]
  exact setC_len (commaE_zero h)
theorem layS_mem {s : Ps} {v : Int} (h : commaE s = 0) : (layS s v).mem.length = s.mem.length := commaS_mem h
theorem layS_here {s : Ps} {v : Int} (h : commaE s = 0) : (layS s v).here = s.here + 8 := by
  unfold layS commaS
  rw [if_pos h]
/-- Of the fields that package asm leaves alone. -/
theorem layS_rest {s : Ps} {v : Int} (h : commaE s = 0) : layS s v = { s with mem := setC s.mem s.here v, here := s.here + 8, spots := (s.spots.filter fun x => decide (x.1 < s.here)) ++ [(s.here, s.tok)] } := by
  unfold layS commaS
  rw [if_pos h]
end Go.Proofs.YtiliddklaklekaaDoor
