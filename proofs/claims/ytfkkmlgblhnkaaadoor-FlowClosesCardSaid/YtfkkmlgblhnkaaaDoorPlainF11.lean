
/- What the closures of flow.table make of a state, in plain words; how large it is then. -/
import Derived.Test.YtfkkmlgblhnkaaaDoorWork11b
namespace Go.Proofs.YtfkkmlgblhnkaaaDoor
open Go.RowKit

/-- Not too large. -/
def Sz (s : Ps) (k : Nat) : Prop := s.mem.length ≤ 1000000 ∧ s.spots.length ≤ k ∧ s.ctl.length ≤ k
theorem Sz.zero (k : Nat) : Sz zeroP k := ⟨by decide, Nat.zero_le _, Nat.zero_le _⟩
theorem Sz.mono {s : Ps} {k j : Nat} (h : Sz s k) (hk : k ≤ j) : Sz s j := ⟨h.1, Nat.le_trans h.2.1 hk, Nat.le_trans h.2.2 hk⟩
theorem layS_sz {s : Ps} {v : Int} {k : Nat} (_h : Sz s k) (hc : commaE s = 0) : (layS s v).mem.length = s.mem.length ∧ (layS s v).spots.length ≤ s.spots.length + 1 ∧ (layS s v).ctl = s.ctl := by
  refine ⟨layS_mem hc, ?_, ?_⟩
  · rw [layS_rest hc]
    have := List.length_filter_le (fun x => decide (x.1 < s.here)) s.spots
    simp
    exact this
  · rw [layS_rest hc]
theorem emitS_sz : ∀ (l : List Int) {s : Ps} {k : Nat}, Sz s k → Sz (emitS s l) (k + l.length)
  | [], s, k, h => h
  | v :: r, s, k, h => by
    unfold emitS
    by_cases hc : commaE s = 0
    · rw [if_pos hc]
      obtain ⟨h1, h2, h3⟩ := layS_sz (v := v) h hc
      have := emitS_sz r (s := layS s v) (k := k + 1) ⟨by rw [h1]; exact h.1, by have := h.2.1; omega, by rw [h3]; have := h.2.2; omega⟩
      simpa [Nat.add_assoc, Nat.add_comm 1] using this
    · rw [if_neg hc]
      exact Sz.zero _
theorem layW_sz {x : Ps × Int} {op v : Int} {k : Nat} (h : Sz x.1 k) : Sz (layW x op v).1 (k + 2) := by
  unfold layW
  split
  · exact emitS_sz [op, v] h
  · exact h.mono (by omega)
theorem settleW_sz {x : Ps × Int} {at_ : Int} {k : Nat} (h : Sz x.1 k) : Sz (settleW x at_).1 k := by
  unfold settleW
  split
  · by_cases hp : patchE x.1 at_ = 0
    · rw [patchS_ok hp]
      exact ⟨by rw [setC_len hp]; exact h.1, h.2.1, h.2.2⟩
    · rw [patchS_no hp]
      exact Sz.zero _
  · exact h
theorem pushW_sz {x : Ps × Int} {kind at_ : Int} {k : Nat} (h : Sz x.1 k) : Sz (pushW x kind at_).1 (k + 2) := by
  unfold pushW
  split
  · split
    · exact Sz.zero _
    · refine ⟨h.1, by have := h.2.1; show x.1.spots.length ≤ _; omega, ?_⟩
      show (x.1.ctl ++ [kind, at_]).length ≤ _
      have := h.2.2
      simp
      omega
  · exact h.mono (by omega)
theorem popW_sz {x : Ps × Int} {kind : Int} {k : Nat} (h : Sz x.1 k) : Sz (popW x kind).1 k := by
  unfold popW
  split
  · split
    · refine ⟨h.1, h.2.1, ?_⟩
      show (x.1.ctl.take _).length ≤ _
      have := h.2.2
      rw [List.length_take]
      omega
    · exact Sz.zero _
  · exact h
theorem roomW_sz {x : Ps × Int} {m k : Nat} (h : Sz x.1 k) : Sz (roomW x m).1 k := by
  unfold roomW
  split
  · exact Sz.zero _
  · exact h

def forwardW (x : Ps × Int) (op kind : Int) : Ps × Int := pushW (layW (roomW x 1) op 0) kind (freshW (layW (roomW x 1) op 0))
def beginW (x : Ps × Int) : Ps × Int := pushW x 2 x.1.here
def thenW (x : Ps × Int) : Ps × Int := settleW (popW x 1) (popV x 1)
def elseW (x : Ps × Int) : Ps × Int := pushW (settleW (layW (roomW (popW x 1) 1) 3 0) (popV x 1)) 1 (freshW (settleW (layW (roomW (popW x 1) 1) 3 0) (popV x 1)))
def whileW (x : Ps × Int) : Ps × Int := pushW (pushW (layW (roomW (popW x 2) 2) 4 0) 1 (freshW (layW (roomW (popW x 2) 2) 4 0))) 2 (popV x 2)
def backW (x : Ps × Int) (op : Int) : Ps × Int := layW (popW x 2) op (popV x 2)
def shutW (x : Ps × Int) (op : Int) : Ps × Int := settleW (layW (popW x 3) op (wrap64 (popV x 3 + 8))) (popV x 3)
def repeatW (x : Ps × Int) : Ps × Int := settleW (layW (popW (popW x 2) 1) 3 (popV x 2)) (popV (popW x 2) 1)
def recurseW (x : Ps × Int) : Ps × Int := match x.1.words.getLast? with
  | none => if x.2 = 0 then (zeroP, -22) else x
  | some u => if u.hid then (if x.2 = 0 then (emitS x.1 [u.code], emitE x.1 [u.code]) else x) else (if x.2 = 0 then (zeroP, -22) else x)
end Go.Proofs.YtfkkmlgblhnkaaaDoor
