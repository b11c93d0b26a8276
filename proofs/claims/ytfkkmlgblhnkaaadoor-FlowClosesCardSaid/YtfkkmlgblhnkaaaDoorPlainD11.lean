
/- flow's words: no list grows by much. -/
import Derived.Test.YtfkkmlgblhnkaaaDoorDoG11
namespace Go.Proofs.YtfkkmlgblhnkaaaDoor
open Go.RowKit

/-- No list is longer, but the control stack and the spots, by so many. -/
structure LeD (s' s : Ps) (k : Nat) : Prop where
  mem : s'.mem.length ≤ s.mem.length
  data : s'.data.length ≤ s.data.length
  ret : s'.ret.length ≤ s.ret.length
  words : s'.words.length ≤ s.words.length
  ctl : s'.ctl.length ≤ s.ctl.length + k
  spots : s'.spots.length ≤ s.spots.length + k
theorem LeD.zero (s : Ps) (k : Nat) : LeD zeroP s k := ⟨Nat.zero_le _, Nat.zero_le _, Nat.zero_le _, Nat.zero_le _, Nat.zero_le _, Nat.zero_le _⟩
theorem LeD.refl (s : Ps) (k : Nat) : LeD s s k := ⟨Nat.le_refl _, Nat.le_refl _, Nat.le_refl _, Nat.le_refl _, Nat.le_add_right _ _, Nat.le_add_right _ _⟩
theorem LeD.trans {a b c : Ps} {j k : Nat} (h : LeD b a j) (g : LeD c b k) : LeD c a (j + k) :=
  ⟨Nat.le_trans g.mem h.mem, Nat.le_trans g.data h.data, Nat.le_trans g.ret h.ret, Nat.le_trans g.words h.words, by have := g.ctl; have := h.ctl; omega, by have := g.spots; have := h.spots; omega⟩
theorem LeD.emit : ∀ (l : List Int) (s : Ps), LeD (emitS s l) s l.length
  | [], s => LeD.refl s 0
  | v :: r, s => by
    unfold emitS
    split
    · rename_i hc
      have h := LeD.emit r (layS s v)
      have h1 : LeD (layS s v) s 1 := by
        have hf := List.length_filter_le (fun x => decide (x.1 < s.here)) s.spots
        have hm := layS_mem (v := v) hc
        rw [layS_rest hc] at hm ⊢
        exact ⟨Nat.le_of_eq hm, Nat.le_refl _, Nat.le_refl _, Nat.le_refl _, Nat.le_add_right _ _, by simp; exact hf⟩
      have := h1.trans h
      rw [Nat.add_comm] at this
      exact this
    · exact LeD.zero _ _
theorem LeD.patch (s : Ps) (i v : Int) : LeD (patchS s i v) s 0 := by
  by_cases h : patchE s i = 0
  · rw [patchS_ok h]
    exact ⟨Nat.le_of_eq (setC_len h), Nat.le_refl _, Nat.le_refl _, Nat.le_refl _, Nat.le_refl _, Nat.le_refl _⟩
  · rw [patchS_no h]
    exact LeD.zero _ _
theorem LeD.layW (x : Ps × Int) (op v : Int) : LeD (layW x op v).1 x.1 2 := by
  unfold Go.Proofs.YtfkkmlgblhnkaaaDoor.layW
  split
  · exact LeD.emit [op, v] x.1
  · exact LeD.refl _ _
theorem LeD.settleW (x : Ps × Int) (a : Int) : LeD (settleW x a).1 x.1 0 := by
  unfold Go.Proofs.YtfkkmlgblhnkaaaDoor.settleW
  split
  · exact LeD.patch _ _ _
  · exact LeD.refl _ _
theorem LeD.pushW (x : Ps × Int) (k a : Int) : LeD (pushW x k a).1 x.1 2 := by
  unfold Go.Proofs.YtfkkmlgblhnkaaaDoor.pushW
  split
  · split
    · exact LeD.zero _ _
    · exact ⟨Nat.le_refl _, Nat.le_refl _, Nat.le_refl _, Nat.le_refl _, by simp, Nat.le_add_right _ _⟩
  · exact LeD.refl _ _
theorem LeD.popW (x : Ps × Int) (k : Int) : LeD (popW x k).1 x.1 0 := by
  unfold Go.Proofs.YtfkkmlgblhnkaaaDoor.popW
  split
  · split
    · exact ⟨Nat.le_refl _, Nat.le_refl _, Nat.le_refl _, Nat.le_refl _, by simp, Nat.le_refl _⟩
    · exact LeD.zero _ _
  · exact LeD.refl _ _
theorem LeD.roomW (x : Ps × Int) (m : Nat) : LeD (roomW x m).1 x.1 0 := by
  unfold Go.Proofs.YtfkkmlgblhnkaaaDoor.roomW
  split
  · exact LeD.zero _ _
  · exact LeD.refl _ _
theorem LeD.mono {a b : Ps} {j k : Nat} (h : LeD b a j) (hk : j ≤ k) : LeD b a k := ⟨h.mem, h.data, h.ret, h.words, by have := h.ctl; omega, by have := h.spots; omega⟩
theorem LeD.res {x : Ps × Int} {s : Ps} {k : Nat} (h : LeD x.1 s k) : LeD (resF x).1 s k := by
  unfold resF
  split
  · exact h
  · exact LeD.zero _ _
theorem LeD.recurse (s : Ps) : LeD (recurseW (s, 0)).1 s 1 := by
  unfold recurseW
  cases s.words.getLast? with
  | none => exact LeD.zero _ _
  | some u =>
    dsimp only
    split
    · exact LeD.emit [u.code] s
    · exact LeD.zero _ _
theorem LeD.do_ (s : Ps) (op : Int) : LeD (doF s op).1 s 6 := by
  unfold doF
  have fw : ∀ a b, LeD (resF (forwardW (s, 0) a b)).1 s 6 := fun a b => LeD.res ((((LeD.roomW (s, 0) 1).trans (LeD.layW _ a 0)).trans (LeD.pushW _ b _)).mono (by omega))
  have bw : ∀ a, LeD (resF (backW (s, 0) a)).1 s 6 := fun a => LeD.res (((LeD.popW (s, 0) 2).trans (LeD.layW _ a _)).mono (by omega))
  have sw : ∀ a, LeD (resF (shutW (s, 0) a)).1 s 6 := fun a => LeD.res ((((LeD.popW (s, 0) 3).trans (LeD.layW _ a _)).trans (LeD.settleW _ _)).mono (by omega))
  by_cases h98 : op = 98
  · rw [if_pos h98]
    exact fw _ _
  rw [if_neg h98]
  by_cases h99 : op = 99
  · rw [if_pos h99]
    exact LeD.res ((((((LeD.popW (s, 0) 1).trans (LeD.roomW _ 1)).trans (LeD.layW _ 3 0)).trans (LeD.settleW _ _)).trans (LeD.pushW _ 1 _)).mono (by omega))
  rw [if_neg h99]
  by_cases h100 : op = 100
  · rw [if_pos h100]
    exact LeD.res (((LeD.popW (s, 0) 1).trans (LeD.settleW _ _)).mono (by omega))
  rw [if_neg h100]
  by_cases h101 : op = 101
  · rw [if_pos h101]
    exact LeD.res ((LeD.pushW (s, 0) 2 _).mono (by omega))
  rw [if_neg h101]
  by_cases h102 : op = 102
  · rw [if_pos h102]
    exact bw _
  rw [if_neg h102]
  by_cases h103 : op = 103
  · rw [if_pos h103]
    exact bw _
  rw [if_neg h103]
  by_cases h104 : op = 104
  · rw [if_pos h104]
    exact LeD.res ((((((LeD.popW (s, 0) 2).trans (LeD.roomW _ 2)).trans (LeD.layW _ 4 0)).trans (LeD.pushW _ 1 _)).trans (LeD.pushW _ 2 _)).mono (by omega))
  rw [if_neg h104]
  by_cases h105 : op = 105
  · rw [if_pos h105]
    exact LeD.res (((((LeD.popW (s, 0) 2).trans (LeD.popW _ 1)).trans (LeD.layW _ 3 _)).trans (LeD.settleW _ _)).mono (by omega))
  rw [if_neg h105]
  by_cases h106 : op = 106
  · rw [if_pos h106]
    exact fw _ _
  rw [if_neg h106]
  by_cases h107 : op = 107
  · rw [if_pos h107]
    exact sw _
  rw [if_neg h107]
  by_cases h108 : op = 108
  · rw [if_pos h108]
    exact sw _
  rw [if_neg h108]
  by_cases h109 : op = 109
  · rw [if_pos h109]
    exact LeD.res ((LeD.recurse s).mono (by omega))
  rw [if_neg h109]
  exact LeD.zero _ _
end Go.Proofs.YtfkkmlgblhnkaaaDoor
