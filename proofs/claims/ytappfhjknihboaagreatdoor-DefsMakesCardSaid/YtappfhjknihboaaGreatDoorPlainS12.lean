
/- What a word that reads alone leaves. No program in sight. -/
import Derived.Test.YtappfhjknihboaaGreatDoorPlainD12
import Derived.Test.YtappfhjknihboaaGreatDoorMK
namespace Go.Proofs.YtappfhjknihboaaGreatDoor
open Go.RowKit

theorem Same_is (q1 q2 : Ad) (s : Ps) (V1 V2 : Value) (w : World) (e1 : V1 = stV q1 s) (e2 : V2 = stV q2 s) (h1 : RdP w q1 s) (h2 : RdP w q2 s) (hd : s.data.length ≤ 140737488355328) (hr : s.ret.length ≤ 140737488355328) (hc : s.ctl.length ≤ 140737488355328) (hw : s.words.length ≤ 140737488355328) (hsp : s.spots.length ≤ 140737488355328) :
    Calls Tryz.prog 12 #[V1, V2] w fun e w' => e = .returned (.bool true) ∧ Below w.heap.size w w' := by
  subst e1 e2
  exact Same_any q1 q2 s w h1 h2 hd hr hc hw hsp
theorem resF_cases {y : Ps × Int} {s : Ps} {e : Int} {b : Bool} (h : resF y = (s, e, b)) : b = true ∧ (e ≠ 0 → s = zeroP) ∧ (e = 0 → y = (s, 0)) := by
  unfold resF at h
  by_cases h0 : y.2 = 0
  · rw [if_pos h0] at h
    injection h with h1 h2
    injection h2 with h2 h3
    exact ⟨h3.symm, fun hn => absurd h2.symm hn, fun _ => by rw [← h1, ← h0]⟩
  · rw [if_neg h0] at h
    injection h with h1 h2
    injection h2 with h2 h3
    exact ⟨h3.symm, fun _ => h1.symm, fun hn => absurd (h2.trans hn) h0⟩
theorem give_ok {x : Sx} {y : Ps × Int} {v : Int} {z : Ps} (h : giveD x y v = (z, 0)) : y.2 = 0 ∧ z = { y.1 with data := y.1.data ++ [v] } := by
  unfold giveD at h
  by_cases h0 : y.2 = 0
  · rw [if_pos h0] at h
    split at h
    · injection h with _ h2
      exact absurd h2 (by decide)
    · injection h with h1 _
      exact ⟨h0, h1.symm⟩
  · rw [if_neg h0] at h
    exact absurd (by rw [h]) h0
theorem stays_118 {x : Sx} {s s1 : Ps} {e1 : Int} {b : Bool} (h : doD x s 118 = (s1, e1, b)) : b = true ∧ (e1 ≠ 0 → s1 = zeroP) ∧ (e1 = 0 → ({ s1 with pos := s.pos, data := s.data, comp := s.comp } : Ps) = s ∧ s1.data.length = s.data.length + 1 ∧ s1.comp = s.comp) := by
  have h : resF (tickD x (s, 0)) = (s1, e1, b) := h
  obtain ⟨h1, h2, h3⟩ := resF_cases h
  refine ⟨h1, h2, fun h0 => ?_⟩
  have h4 := h3 h0
  unfold tickD at h4
  obtain ⟨_, h5⟩ := give_ok h4
  rw [h5]
  exact ⟨rfl, by show (s.data ++ [_]).length = _; simp, rfl⟩
theorem stays_125 {x : Sx} {s s1 : Ps} {e1 : Int} {b : Bool} (h : doD x s 125 = (s1, e1, b)) : b = true ∧ (e1 ≠ 0 → s1 = zeroP) ∧ (e1 = 0 → ({ s1 with pos := s.pos, data := s.data, comp := s.comp } : Ps) = s ∧ s1.data.length = s.data.length + 1 ∧ s1.comp = s.comp) := by
  have h : resF (charGD x (s, 0)) = (s1, e1, b) := h
  obtain ⟨h1, h2, h3⟩ := resF_cases h
  refine ⟨h1, h2, fun h0 => ?_⟩
  have h4 := h3 h0
  unfold charGD at h4
  obtain ⟨_, h5⟩ := give_ok h4
  rw [h5]
  exact ⟨rfl, by show (s.data ++ [_]).length = _; simp, rfl⟩
theorem stays_127 {x : Sx} {s s1 : Ps} {e1 : Int} {b : Bool} (h : doD x s 127 = (s1, e1, b)) : b = true ∧ (e1 ≠ 0 → s1 = zeroP) ∧ (e1 = 0 → ({ s1 with pos := s.pos, data := s.data, comp := s.comp } : Ps) = s ∧ s1.data = s.data ∧ s1.comp = s.comp) := by
  have h : resF (parD x (s, 0)) = (s1, e1, b) := h
  obtain ⟨h1, h2, h3⟩ := resF_cases h
  refine ⟨h1, h2, fun h0 => ?_⟩
  have h4 := h3 h0
  injection h4 with h5 _
  rw [← h5]
  exact ⟨rfl, rfl, rfl⟩
theorem stays_128 {x : Sx} {s s1 : Ps} {e1 : Int} {b : Bool} (h : doD x s 128 = (s1, e1, b)) : b = true ∧ (e1 ≠ 0 → s1 = zeroP) ∧ (e1 = 0 → ({ s1 with pos := s.pos, data := s.data, comp := s.comp } : Ps) = s ∧ s1.data = s.data ∧ s1.comp = s.comp) := by
  have h : resF (lineD x (s, 0)) = (s1, e1, b) := h
  obtain ⟨h1, h2, h3⟩ := resF_cases h
  refine ⟨h1, h2, fun h0 => ?_⟩
  have h4 := h3 h0
  injection h4 with h5 _
  rw [← h5]
  exact ⟨rfl, rfl, rfl⟩
theorem stays_122 {x : Sx} {s s1 : Ps} {e1 : Int} {b : Bool} (h : doD x s 122 = (s1, e1, b)) : b = true ∧ (e1 ≠ 0 → s1 = zeroP) ∧ (e1 = 0 → ({ s1 with pos := s.pos, data := s.data, comp := s.comp } : Ps) = s ∧ s1.data = s.data ∧ s1.comp = false) := by
  have h : resF (compD false (s, 0)) = (s1, e1, b) := h
  obtain ⟨h1, h2, h3⟩ := resF_cases h
  refine ⟨h1, h2, fun h0 => ?_⟩
  have h4 := h3 h0
  injection h4 with h5 _
  rw [← h5]
  exact ⟨rfl, rfl, rfl⟩
theorem stays_123 {x : Sx} {s s1 : Ps} {e1 : Int} {b : Bool} (h : doD x s 123 = (s1, e1, b)) : b = true ∧ (e1 ≠ 0 → s1 = zeroP) ∧ (e1 = 0 → ({ s1 with pos := s.pos, data := s.data, comp := s.comp } : Ps) = s ∧ s1.data = s.data ∧ s1.comp = true) := by
  have h : resF (compD true (s, 0)) = (s1, e1, b) := h
  obtain ⟨h1, h2, h3⟩ := resF_cases h
  refine ⟨h1, h2, fun h0 => ?_⟩
  have h4 := h3 h0
  injection h4 with h5 _
  rw [← h5]
  exact ⟨rfl, rfl, rfl⟩
end Go.Proofs.YtappfhjknihboaaGreatDoor
