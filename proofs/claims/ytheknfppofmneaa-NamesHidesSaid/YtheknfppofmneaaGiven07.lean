/- Words that are given: a slice of them, and one by value. -/
import Derived.Test.YtheknfppofmneaaWord
import Derived.Deep.Slices
import Derived.Lib.SmallJoins
import Derived.ChangeSame
import Derived.OpenShut
namespace Go.Proofs.Ytheknfppofmneaa
open Go.RowKit Go.ChangeShapes Go.WideShapes

section
variable {H : Type} {enc : TypeId × Value → H} {W : World} {base : Nat} {spare : Nat → Bool} {held : Bool}

theorem word_of {n : Nat} {cs : List Value} {x : DataW H × List MemPlace} (h : DataW.trod enc Try.prog W base spare held n 31 cs = some x) : ∃ y : Wd, cs = encW y ∧ y.nm.size ≤ maxLen ∧ (Lit.int .i64 y.code).wf = true := by
  obtain ⟨y0, y1, y2, y3, m, _, hl, h0, h1, h2, h3⟩ := Go.Joins.trod_struct4 Try.underlying31 h
  have c31 : Try.prog.cellsOf 31 = 4 := by kernel_rfl
  have c9 : Try.prog.cellsOf 9 = 1 := by kernel_rfl
  have c3 : Try.prog.cellsOf 3 = 1 := by kernel_rfl
  have c4 : Try.prog.cellsOf 4 = 1 := by kernel_rfl
  rw [c31] at hl
  obtain ⟨s, e0, _, hs⟩ := DataW.trod_string Try.underlying9 h0
  obtain ⟨i, e1, _, hw⟩ := DataW.trod_int Try.underlying3 h1
  obtain ⟨b, e2, _⟩ := DataW.trod_bool Try.underlying4 h2
  obtain ⟨b', e3, _⟩ := DataW.trod_bool Try.underlying4 h3
  simp only [c9, c3, c4] at e0 e1 e2 e3
  match cs, hl with
  | [x0, x1, x2, x3], _ =>
    simp at e0 e1 e2 e3
    subst e0 e1 e2 e3
    exact ⟨⟨s, i, b, b'⟩, rfl, hs, hw⟩

theorem given_words {fuel : Nat} {A : Option Addr} {n c : Nat} {x : DataW H × List MemPlace} (h : DataW.trod enc Try.prog W base spare held fuel 26 [.slice A n c] = some x) :
    ∃ l : List Wd, n = l.length ∧ RdW W A c l := by
  rcases Go.Deep.open_slice Try.underlying26 h with ⟨hcs, _⟩ | ⟨a, len, cap, m, k, D, Pl, hcs, _, hl, hm, hmm, _, hi⟩
  · simp only [List.cons.injEq, Value.slice.injEq, and_true] at hcs
    obtain ⟨rfl, rfl, rfl⟩ := hcs
    exact ⟨[], rfl, rd_nil _ _⟩
  · simp only [List.cons.injEq, Value.slice.injEq, and_true] at hcs
    obtain ⟨rfl, rfl, rfl⟩ := hcs
    have c31 : Try.prog.cellsOf 31 = 4 := by kernel_rfl
    have hle : n ≤ m := by rw [hmm]; split <;> omega
    have each : ∀ i : Nat, ∃ y : Wd, i < n → ∀ j v, (encW y)[j]? = some v → W.cell? (a.add (i * 4 + j)) = some v := fun i => by
      by_cases hin : i < n
      · obtain ⟨cs', hc, ht⟩ := hi i (by omega)
        rw [c31] at hc
        obtain ⟨y, rfl, _⟩ := word_of ht
        obtain ⟨_, _, hat⟩ := World.cells?_some hc
        refine ⟨y, fun _ j v hv => ?_⟩
        rw [← Addr.add_add, hat j (encW_lt hv), hv]
      · exact ⟨default, fun h => absurd h hin⟩
    obtain ⟨f, hf⟩ := Classical.axiomOfChoice each
    refine ⟨(List.range n).map f, by simp, ⟨by rw [wcells_len], by simpa using hl, hm, fun h => by simp at h, fun j u hj => ⟨a, rfl, ?_⟩⟩⟩
    have hjl : j < n * 4 := by
      have := (List.getElem?_eq_some_iff.1 hj).1
      rw [wcells_len] at this
      simpa using this
    have e := wcells_get ((List.range n).map f) (j / 4) (j % 4) (by simp; omega) (by omega)
    rw [show j / 4 * 4 + j % 4 = j by omega, hj] at e
    have e2 : (((List.range n).map f)[j / 4]! : Wd) = f (j / 4) := by
      rw [getElem!_pos _ _ (by simp; omega)]
      simp
    rw [e2] at e
    have := hf (j / 4) (by omega) (j % 4) u e.symm
    rwa [show j / 4 * 4 + j % 4 = j by omega] at this
theorem given_word {r : Reach} {b0 : Nat} {v : Value} {d : DataW H} {p : List MemPlace} (hv : Value.okWide Try.prog W r b0 31 v) (h : DataW.Trod enc Try.prog W base spare held 31 v d p) :
    ∃ y : Wd, v = .agg (encW y).toArray ∧ y.nm.size ≤ maxLen := by
  obtain ⟨cs, rfl, _⟩ := okWide_struct Try.underlying31 hv
  obtain ⟨fuel, hf⟩ := h
  obtain ⟨y, hy, hs, _⟩ := word_of hf
  refine ⟨y, ?_, hs⟩
  simp only [Value.cells] at hy
  rw [← hy]
end
end Go.Proofs.Ytheknfppofmneaa
