
/- The plain law of AsmWalk: code laid word by word. -/
import Derived.Test.YtiliddklaklekaaDoorPlain10
import Derived.Test.YtiliddklaklekaaDoorFetch10
namespace Go.Proofs.YtiliddklaklekaaDoor
open Go.RowKit

def codeOf (wi x : Int) : List Int := if x % 3 = 0 then [2 + x / 3 % 6, wi] else [13 + x % 100]
def flat (wi : Int) (l : List Int) (i : Nat) : List Int := (l.take i).flatMap (codeOf wi)
def posOf (wi : Int) (l : List Int) (i : Nat) : Nat := (flat wi l i).length
theorem codeOf_len (wi x : Int) : 1 ≤ (codeOf wi x).length ∧ (codeOf wi x).length ≤ 2 := by
  unfold codeOf
  split <;> simp
theorem flat_next {wi : Int} {l : List Int} {i : Nat} (h : i < l.length) : flat wi l (i + 1) = flat wi l i ++ codeOf wi (l.getD i 0) := by
  unfold flat
  rw [take_snoc h, List.flatMap_append]
  simp
theorem pos_next {wi : Int} {l : List Int} {i : Nat} (h : i < l.length) : posOf wi l (i + 1) = posOf wi l i + (codeOf wi (l.getD i 0)).length := by
  unfold posOf
  rw [flat_next h, List.length_append]
theorem pos_le (wi : Int) (l : List Int) : ∀ i, i ≤ l.length → posOf wi l i ≤ 2 * i
  | 0, _ => by simp [posOf, flat]
  | i + 1, h => by
    have := pos_le wi l i (by omega)
    have := (codeOf_len wi (l.getD i 0)).2
    rw [pos_next (by omega)]
    omega
theorem flat_pre (wi : Int) (l : List Int) (i : Nat) : ∀ k, i + k ≤ l.length → ∃ r, flat wi l (i + k) = flat wi l i ++ r
  | 0, _ => ⟨[], by simp⟩
  | k + 1, h => by
    obtain ⟨r, hr⟩ := flat_pre wi l i k (by omega)
    exact ⟨r ++ codeOf wi (l.getD (i + k) 0), by rw [show i + (k + 1) = i + k + 1 by omega, flat_next (by omega), hr, List.append_assoc]⟩
theorem flat_at {wi : Int} {l : List Int} {i n m : Nat} (h : i < n) (hn : n ≤ l.length) (hm : m < (codeOf wi (l.getD i 0)).length) : posOf wi l i + m < posOf wi l n ∧ (flat wi l n).getD (posOf wi l i + m) 0 = (codeOf wi (l.getD i 0)).getD m 0 := by
  obtain ⟨r, hr⟩ := flat_pre wi l (i + 1) (n - (i + 1)) (by omega)
  rw [show i + 1 + (n - (i + 1)) = n by omega, flat_next (by omega), List.append_assoc] at hr
  generalize l.getD i 0 = x at *
  unfold posOf
  rw [hr]
  refine ⟨by rw [List.length_append, List.length_append]; omega, ?_⟩
  rw [List.getD_eq_getElem?_getD, List.getElem?_append_right (by omega), show (flat wi l i).length + m - (flat wi l i).length = m by omega, List.getElem?_append_left hm, ← List.getD_eq_getElem?_getD]

/-- Where AsmWalk's laying stands. -/
structure Wk (wi : Int) (l : List Int) (i : Nat) (s : Ps) : Prop where
  here : s.here = 8 * (posOf wi l i : Int)
  len : s.mem.length = 400
  spots : ∀ x ∈ s.spots, x.1 < s.here
  spl : s.spots.length = posOf wi l i
  cells : ∀ j, j < posOf wi l i → cellR s.mem (8 * (j : Int)) = (flat wi l i).getD j 0
theorem codeOf_bnd {wi x : Int} (_hx : 0 ≤ x ∧ x < 256) (hw : -9223372036854775808 ≤ wi ∧ wi ≤ 9223372036854775807) : ∀ y ∈ codeOf wi x, -9223372036854775808 ≤ y ∧ y ≤ 9223372036854775807 := by
  unfold codeOf
  split
  · intro y hy
    simp at hy
    rcases hy with rfl | rfl
    · omega
    · exact hw
  · intro y hy
    simp at hy
    omega
theorem Wk.emit {wi : Int} {l : List Int} {i : Nat} {s : Ps} (h : Wk wi l i s) (hi : i < l.length) (h20 : l.length ≤ 20) (hx : 0 ≤ l.getD i 0 ∧ l.getD i 0 < 256) (hw : -9223372036854775808 ≤ wi ∧ wi ≤ 9223372036854775807) :
    emitE s (codeOf wi (l.getD i 0)) = 0 ∧ Wk wi l (i + 1) (emitS s (codeOf wi (l.getD i 0))) := by
  have hp := pos_le wi l i (by omega)
  have hc := codeOf_len wi (l.getD i 0)
  have a := emit_all (codeOf wi (l.getD i 0)) s (posOf wi l i) h.here (by rw [h.len]; omega) h.spots (codeOf_bnd hx hw)
  have hn := pos_next (wi := wi) hi
  have hfl := flat_next (wi := wi) hi
  generalize l.getD i 0 = x at *
  refine ⟨a.e, by rw [a.here, hn], by rw [a.len, h.len], ?_, ?_, ?_⟩
  · intro y hy
    rw [a.here]
    rw [a.spots] at hy
    rcases List.mem_append.1 hy with hy | hy
    · have := h.spots y hy
      rw [h.here] at this
      omega
    · obtain ⟨m, hm, rfl⟩ := List.mem_map.1 hy
      have := List.mem_range.1 hm
      show 8 * ((posOf wi l i + m : Nat) : Int) < _
      omega
  · rw [a.spots, hn, List.length_append, h.spl]
    simp
  · intro j hj
    rw [hfl]
    by_cases hj2 : j < posOf wi l i
    · rw [a.old j hj2, h.cells j hj2, List.getD_eq_getElem?_getD, List.getD_eq_getElem?_getD, List.getElem?_append_left hj2]
    · obtain ⟨m, rfl⟩ : ∃ m, j = posOf wi l i + m := ⟨j - posOf wi l i, by omega⟩
      rw [a.new m (by omega), List.getD_eq_getElem?_getD, List.getD_eq_getElem?_getD, List.getElem?_append_right (by unfold posOf; omega)]
      congr 2
      unfold posOf
      omega
theorem Wk.fetch {wi : Int} {l : List Int} {i : Nat} {s : Ps} (h : Wk wi l l.length s) (hi : i < l.length) (h20 : l.length ≤ 20) (_hx : 0 ≤ l.getD i 0 ∧ l.getD i 0 < 256) :
    ∃ op, fetR s.mem (8 * (posOf wi l i : Int)) = (op, (if l.getD i 0 % 3 = 0 then wi else 0), 8 * (posOf wi l (i + 1) : Int), 0) := by
  have hp := pos_le wi l l.length (Nat.le_refl _)
  have h0 := flat_at (wi := wi) (m := 0) hi (Nat.le_refl _) (by have := (codeOf_len wi (l.getD i 0)).1; omega)
  have c0 : cellR s.mem (8 * (posOf wi l i : Int)) = (codeOf wi (l.getD i 0)).getD 0 0 := by
    rw [h.cells _ (by have := h0.1; omega)]
    exact h0.2
  have e0 : cellE s.mem.length (8 * (posOf wi l i : Int)) = 0 := by rw [h.len]; exact cellE_at (by have := h0.1; omega)
  have hn := pos_next (wi := wi) hi
  by_cases h3 : l.getD i 0 % 3 = 0
  · rw [if_pos h3]
    have hc : codeOf wi (l.getD i 0) = [2 + l.getD i 0 / 3 % 6, wi] := by rw [codeOf, if_pos h3]
    have h1 := flat_at (wi := wi) (m := 1) hi (Nat.le_refl _) (by rw [hc]; simp)
    rw [hc] at c0 h1 hn
    have c1 : cellR s.mem (8 * (posOf wi l i : Int) + 8) = wi := by
      rw [show 8 * (posOf wi l i : Int) + 8 = 8 * ((posOf wi l i + 1 : Nat) : Int) by omega, h.cells _ h1.1, h1.2]
      rfl
    have e1 : cellE s.mem.length (8 * (posOf wi l i : Int) + 8) = 0 := by
      rw [show 8 * (posOf wi l i : Int) + 8 = 8 * ((posOf wi l i + 1 : Nat) : Int) by omega, h.len]
      exact cellE_at (by have := h1.1; omega)
    have c0' : cellR s.mem (8 * (posOf wi l i : Int)) = 2 + l.getD i 0 / 3 % 6 := c0
    refine ⟨2 + l.getD i 0 / 3 % 6, ?_⟩
    rw [fet_cell e0 (by rw [c0']; unfold wideR; simp; omega) e1 (by rw [c0']; omega), c1, c0', hn]
    refine Prod.ext rfl (Prod.ext rfl (Prod.ext ?_ rfl))
    show 8 * (posOf wi l i : Int) + 8 + 8 = _
    simp
    omega
  · rw [if_neg h3]
    have hc : codeOf wi (l.getD i 0) = [13 + l.getD i 0 % 100] := by rw [codeOf, if_neg h3]
    rw [hc] at c0 hn
    have c0' : cellR s.mem (8 * (posOf wi l i : Int)) = 13 + l.getD i 0 % 100 := c0
    refine ⟨13 + l.getD i 0 % 100, ?_⟩
    rw [fet_one e0 (by rw [c0']; unfold wideR; simp; omega), c0', hn]
    refine Prod.ext rfl (Prod.ext rfl (Prod.ext ?_ rfl))
    show 8 * (posOf wi l i : Int) + 8 = _
    simp
    omega
theorem Wk.start {wi : Int} {l : List Int} {M : List Int} (h : M.length = 400) : Wk wi l 0 ⟨M, [], [], [], [], [], [], 0, 0, 0, 0, 0, 0, false, false⟩ :=
  ⟨by simp [posOf, flat], h, fun x hx => (by cases hx), (by simp [posOf, flat]), fun j hj => (by simp [posOf, flat] at hj)⟩
end Go.Proofs.YtiliddklaklekaaDoor
