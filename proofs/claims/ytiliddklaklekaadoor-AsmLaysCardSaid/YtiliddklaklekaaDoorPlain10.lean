
/- The plain law of Emit: what is laid can be read. -/
import Derived.Test.YtiliddklaklekaaDoorAsmP
namespace Go.Proofs.YtiliddklaklekaaDoor
open Go.RowKit

theorem get_splice_out {l ys : List Int} {k j : Nat} (h : k + ys.length ≤ l.length) (hj : j < k ∨ k + ys.length ≤ j) : (splice l k ys)[j]? = l[j]? := by
  simp only [splice]
  rcases hj with hj | hj
  · rw [List.getElem?_append_left (by simp; omega), List.getElem?_take_of_lt hj]
  · rw [List.getElem?_append_right (by simp; omega), List.getElem?_append_right (by simp; omega), List.getElem?_drop]
    congr 1
    simp
    omega
theorem splice_there {l ys : List Int} {k : Nat} (h : k + ys.length ≤ l.length) : ((splice l k ys).drop k).take ys.length = ys := by
  simp only [splice]
  rw [List.drop_append_of_le_length (by simp; omega), List.drop_take]
  simp
theorem cellE_at {n k : Nat} (h : 8 * k + 8 ≤ n) : cellE n (8 * (k : Int)) = 0 := by
  unfold cellE
  rw [if_neg (by omega), if_pos (by omega)]
theorem cellR_at {l : List Int} {k : Nat} (h : 8 * k + 8 ≤ l.length) : cellR l (8 * (k : Int)) = wrap64 (cellAt l (8 * k)) := by
  rw [cellR, if_neg (by omega), if_pos (by omega), show (8 * (k : Int)).toNat = 8 * k by omega]
theorem setC_at {l : List Int} {k : Nat} {v : Int} (h : 8 * k + 8 ≤ l.length) : setC l (8 * (k : Int)) v = splice l (8 * k) (bytesOf v 8) := by
  rw [setC, if_pos (cellE_at h), show (8 * (k : Int)).toNat = 8 * k by omega]
theorem cellR_set_same {l : List Int} {k : Nat} {v : Int} (h : 8 * k + 8 ≤ l.length) (h0 : -9223372036854775808 ≤ v) (h1 : v ≤ 9223372036854775807) : cellR (setC l (8 * (k : Int)) v) (8 * (k : Int)) = v := by
  have hl : (setC l (8 * (k : Int)) v).length = l.length := setC_len (cellE_at h)
  have e : ((splice l (8 * k) (bytesOf v 8)).drop (8 * k)).take 8 = bytesOf v 8 := by
    have := splice_there (l := l) (ys := bytesOf v 8) (k := 8 * k) (by rw [bytesOf_length]; omega)
    rwa [bytesOf_length] at this
  rw [cellR_at (by rw [hl]; exact h), setC_at h, cellAt, e, le_bytesOf]
  show wrap64 (v % 18446744073709551616) = v
  unfold wrap64
  omega
theorem cellR_set_other {l : List Int} {k j : Nat} {v : Int} (h : 8 * k + 8 ≤ l.length) (hj : 8 * j + 8 ≤ l.length) (hne : j ≠ k) : cellR (setC l (8 * (k : Int)) v) (8 * (j : Int)) = cellR l (8 * (j : Int)) := by
  have hl : (setC l (8 * (k : Int)) v).length = l.length := setC_len (cellE_at h)
  have hb := bytesOf_length 8 v
  have e : ((splice l (8 * k) (bytesOf v 8)).drop (8 * j)).take 8 = (l.drop (8 * j)).take 8 := by
    apply List.ext_getElem?
    intro m
    by_cases hm : m < 8
    · rw [List.getElem?_take_of_lt hm, List.getElem?_take_of_lt hm, List.getElem?_drop, List.getElem?_drop, get_splice_out (by rw [hb]; omega) (by rw [hb]; omega)]
    · rw [List.getElem?_eq_none (by simp; omega), List.getElem?_eq_none (by simp; omega)]
  rw [cellR_at (by rw [hl]; exact hj), setC_at h, cellAt, e, cellR_at hj, cellAt]

/-- What Emit leaves, where all can be laid. -/
structure EmitAll (s : Ps) (l : List Int) (k : Nat) (s' : Ps) : Prop where
  e : emitE s l = 0
  here : s'.here = 8 * ((k + l.length : Nat) : Int)
  tok : s'.tok = s.tok
  len : s'.mem.length = s.mem.length
  spots : s'.spots = s.spots ++ (List.range l.length).map (fun i => (8 * ((k + i : Nat) : Int), s.tok))
  old : ∀ j, j < k → cellR s'.mem (8 * (j : Int)) = cellR s.mem (8 * (j : Int))
  new : ∀ i, i < l.length → cellR s'.mem (8 * ((k + i : Nat) : Int)) = l.getD i 0
theorem emit_all : ∀ (l : List Int) (s : Ps) (k : Nat), s.here = 8 * (k : Int) → 8 * k + 8 * l.length ≤ s.mem.length → (∀ x ∈ s.spots, x.1 < s.here) → (∀ x ∈ l, -9223372036854775808 ≤ x ∧ x ≤ 9223372036854775807) → EmitAll s l k (emitS s l)
  | [], s, k, h, _, _, _ => ⟨rfl, by simpa [emitS] using h, rfl, rfl, by simp [emitS], fun _ _ => rfl, fun i hi => by simp at hi⟩
  | v :: r, s, k, h, hm, hs, hv => by
    have hm2 : 8 * k + 8 + 8 * r.length ≤ s.mem.length := by simp at hm; omega
    have hc : commaE s = 0 := by
      unfold commaE
      rw [if_neg (by omega), h]
      exact cellE_at (by omega)
    have hlay := layS_rest (v := v) hc
    have hfil : (s.spots.filter fun x => decide (x.1 < s.here)) = s.spots := List.filter_eq_self.2 fun x hx => by simpa using hs x hx
    rw [hfil, h] at hlay
    have hlen : (layS s v).mem.length = s.mem.length := layS_mem hc
    have ih := emit_all r (layS s v) (k + 1) (by rw [hlay]; show 8 * (k : Int) + 8 = _; omega) (by rw [hlen]; omega) (by
      rw [hlay]
      intro x hx
      show x.1 < 8 * (k : Int) + 8
      rcases List.mem_append.1 hx with hx | hx
      · have := hs x hx
        omega
      · simp at hx
        rw [hx]
        show 8 * (k : Int) < _
        omega) (fun x hx => hv x (List.mem_cons_of_mem _ hx))
    have e1 : emitS s (v :: r) = emitS (layS s v) r := by rw [emitS, if_pos hc]
    have e2 : emitE s (v :: r) = emitE (layS s v) r := by rw [emitE, if_pos hc]
    rw [e1]
    have hmem : (layS s v).mem = setC s.mem (8 * (k : Int)) v := by rw [hlay]
    have hbnd := hv v (by simp)
    refine ⟨by rw [e2]; exact ih.e, by rw [ih.here]; simp; omega, by rw [ih.tok, hlay], by rw [ih.len, hlen], ?_, ?_, ?_⟩
    · rw [ih.spots, hlay]
      simp only [List.length_cons, List.range_succ_eq_map, List.map_cons, List.map_map, List.append_assoc, List.singleton_append]
      congr 2
      apply List.map_congr_left
      intro i _
      simp
      omega
    · intro j hj
      rw [ih.old j (by omega), hmem, cellR_set_other (by omega) (by omega) (by omega)]
    · intro i hi
      cases i with
      | zero =>
        have := ih.old k (by omega)
        rw [hmem, cellR_set_same (by omega) hbnd.1 hbnd.2] at this
        simpa using this
      | succ i =>
        have := ih.new i (by simpa using hi)
        rw [show k + 1 + i = k + (i + 1) by omega] at this
        simpa using this
end Go.Proofs.YtiliddklaklekaaDoor
