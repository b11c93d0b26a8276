/- nostoslaw16.Want: three cells each; a slice of them, as it is given. -/
import Derived.Test.YtaegphgjdffgaaaRows
import Derived.Test.YtaegphgjdffgaaaBase
import Derived.Test.YtaegphgjdffgaaaKept
import Derived.Deep.Slices
import Derived.Deep.Strs
import Derived.ChangeSame
import Derived.OpenShut
namespace Go.Proofs.Ytaegphgjdffgaaa
open Go.RowKit Go.ChangeShapes Go.WideShapes

structure Wn where
  tx : Bool
  lo : Int
  hi : Int
instance : Inhabited Wn := ⟨⟨false, 0, 0⟩⟩
def encN (x : Wn) : List Value := [.bool x.tx, .int .i64 x.lo, .int .i64 x.hi]
def ncells (l : List Wn) : List Value := l.flatMap encN
theorem ncells_len : ∀ l : List Wn, (ncells l).length = l.length * 3
  | [] => rfl
  | x :: l => by
    have := ncells_len l
    rw [ncells] at this
    simp [ncells, encN, this]
    omega
theorem ncells_get : ∀ (l : List Wn) (k c : Nat) (_ : k < l.length) (_ : c < 3), (ncells l)[k * 3 + c]? = (encN l[k]!)[c]?
  | x :: l, 0, c, _, hc => by
    simp only [ncells, List.flatMap_cons, Nat.zero_mul, Nat.zero_add]
    rw [List.getElem?_append_left (by simpa [encN] using hc)]
    rfl
  | x :: l, k + 1, c, hk, hc => by
    have := ncells_get l k c (by simpa using hk) hc
    simp only [ncells, List.flatMap_cons]
    rw [List.getElem?_append_right (by simp [encN]; omega), show (k + 1) * 3 + c - (encN x).length = k * 3 + c by simp [encN]; omega]
    simpa [ncells] using this
abbrev RdN (w : World) (A : Option Addr) (c : Nat) (l : List Wn) : Prop := Rd w A l.length c 3 (ncells l)
/-- Cell by cell, behind one address. -/
def CellsN (w : World) (ad : Addr) (l : List Wn) : Prop := ∀ k c v, k < l.length → (encN l[k]!)[c]? = some v → w.cell? (ad.add (k * 3 + c)) = some v
theorem encN_lt {x : Wn} {c : Nat} {v : Value} (h : (encN x)[c]? = some v) : c < 3 := by
  have := (List.getElem?_eq_some_iff.1 h).1
  simpa [encN] using this
theorem RdN.all {w : World} {A : Option Addr} {c : Nat} {l : List Wn} (h : RdN w A c l) (h0 : 0 < l.length) : ∃ ad, A = some ad ∧ CellsN w ad l := by
  obtain ⟨ad, rfl, _⟩ := h.cell 0 _ (List.getElem?_eq_getElem (by rw [ncells_len]; omega))
  refine ⟨ad, rfl, fun k j v hk hv => ?_⟩
  obtain ⟨ad', e, hc⟩ := h.cell (k * 3 + j) v (by rw [ncells_get l k j hk (encN_lt hv)]; exact hv)
  cases e
  exact hc
theorem CellsN.below {w w' : World} {ad : Addr} {l : List Wn} (h : CellsN w ad l) (hb : Below w.heap.size w w') : CellsN w' ad l := fun k c v hk hv =>
  (hb.cell (World.block_lt_of_cell? w _ (h k c v hk hv))).trans (h k c v hk hv)
/-- One's three. -/
theorem CellsN.three {w : World} {ad : Addr} {l : List Wn} (h : CellsN w ad l) {k : Nat} (hk : k < l.length) :
    w.cell? (ad.add (k * 3)) = some (.bool l[k]!.tx) ∧ w.cell? (ad.add (k * 3 + 1)) = some (.int .i64 l[k]!.lo) ∧ w.cell? (ad.add (k * 3 + 2)) = some (.int .i64 l[k]!.hi) :=
  ⟨h k 0 _ hk rfl, h k 1 _ hk rfl, h k 2 _ hk rfl⟩
/-- The same, as a field of one asks. -/
theorem CellsN.load {w : World} {ad : Addr} {l : List Wn} (h : CellsN w ad l) {k : Nat} (hk : k < l.length) :
    w.cell? (ad.add (k * 3)) = some (.bool l[k]!.tx) ∧ w.cell? ⟨(ad.add (k * 3)).block, (ad.add (k * 3)).off + 1, none⟩ = some (.int .i64 l[k]!.lo) ∧ w.cell? ⟨(ad.add (k * 3)).block, (ad.add (k * 3)).off + 2, none⟩ = some (.int .i64 l[k]!.hi) := by
  have e : ∀ i, i ≠ 0 → ad.add (k * 3 + i) = ⟨(ad.add (k * 3)).block, (ad.add (k * 3)).off + i, none⟩ := fun i hi => by
    by_cases hk : k = 0
    · simp [Addr.add, hi, hk]
    · simp [Addr.add, hi, show ¬ k * 3 = 0 by omega, Nat.add_assoc]
  rw [← e 1 (by decide), ← e 2 (by decide)]
  exact ⟨h k 0 _ hk rfl, h k 1 _ hk rfl, h k 2 _ hk rfl⟩

section
variable {H : Type} {enc : TypeId × Value → H} {W : World} {base : Nat} {spare : Nat → Bool} {held : Bool}

theorem want_of {n : Nat} {cs : List Value} {x : DataW H × List MemPlace} (h : DataW.trod enc Try.prog W base spare held n 33 cs = some x) : ∃ y : Wn, cs = encN y ∧ (Lit.int .i64 y.lo).wf = true ∧ (Lit.int .i64 y.hi).wf = true := by
  obtain ⟨y0, y1, y2, m, _, hl, h0, h1, h2⟩ := Go.Deep.trod_struct3 Try.underlying33 h
  have c31 : Try.prog.cellsOf 33 = 3 := by kernel_rfl
  have c3 : Try.prog.cellsOf 3 = 1 := by kernel_rfl
  have c4 : Try.prog.cellsOf 4 = 1 := by kernel_rfl
  rw [c31] at hl
  obtain ⟨b, e0, _⟩ := DataW.trod_bool Try.underlying4 h0
  obtain ⟨i, e1, _, hw⟩ := DataW.trod_int Try.underlying3 h1
  obtain ⟨j, e2, _, hw2⟩ := DataW.trod_int Try.underlying3 h2
  simp only [c3, c4] at e0 e1 e2
  match cs, hl with
  | [x0, x1, x2], _ =>
    simp at e0 e1 e2
    subst e0 e1 e2
    exact ⟨⟨b, i, j⟩, rfl, hw, hw2⟩

theorem given_wants {fuel : Nat} {A : Option Addr} {n c : Nat} {x : DataW H × List MemPlace} (h : DataW.trod enc Try.prog W base spare held fuel 27 [.slice A n c] = some x) :
    ∃ l : List Wn, n = l.length ∧ RdN W A c l ∧ ∀ k, k < l.length → (Lit.int .i64 l[k]!.lo).wf = true ∧ (Lit.int .i64 l[k]!.hi).wf = true := by
  rcases Go.Deep.open_slice Try.underlying27 h with ⟨hcs, _⟩ | ⟨a, len, cap, m, k, D, Pl, hcs, _, hl, hm, hmm, _, hi⟩
  · simp only [List.cons.injEq, Value.slice.injEq, and_true] at hcs
    obtain ⟨rfl, rfl, rfl⟩ := hcs
    exact ⟨[], rfl, rd_nil _ _, fun k hk => by simp at hk⟩
  · simp only [List.cons.injEq, Value.slice.injEq, and_true] at hcs
    obtain ⟨rfl, rfl, rfl⟩ := hcs
    have c31 : Try.prog.cellsOf 33 = 3 := by kernel_rfl
    have hle : n ≤ m := by rw [hmm]; split <;> omega
    have each : ∀ i : Nat, ∃ y : Wn, i < n → ((∀ j v, (encN y)[j]? = some v → W.cell? (a.add (i * 3 + j)) = some v) ∧ (Lit.int .i64 y.lo).wf = true ∧ (Lit.int .i64 y.hi).wf = true) := fun i => by
      by_cases hin : i < n
      · obtain ⟨cs', hc, ht⟩ := hi i (by omega)
        rw [c31] at hc
        obtain ⟨y, rfl, hw1, hw2⟩ := want_of ht
        obtain ⟨_, _, hat⟩ := World.cells?_some hc
        refine ⟨y, fun _ => ⟨fun j v hv => ?_, hw1, hw2⟩⟩
        rw [← Addr.add_add, hat j (encN_lt hv), hv]
      · exact ⟨default, fun h => absurd h hin⟩
    obtain ⟨f, hf⟩ := Classical.axiomOfChoice each
    have hget : ∀ k, k < n → (((List.range n).map f)[k]! : Wn) = f k := fun k hk => by
      rw [getElem!_pos _ _ (by simp; omega)]
      simp
    refine ⟨(List.range n).map f, by simp, ⟨by rw [ncells_len], by simpa using hl, hm, fun h => by simp at h, fun j u hj => ⟨a, rfl, ?_⟩⟩, fun k hk => ?_⟩
    · have hjl : j < n * 3 := by
        have := (List.getElem?_eq_some_iff.1 hj).1
        rw [ncells_len] at this
        simpa using this
      have e := ncells_get ((List.range n).map f) (j / 3) (j % 3) (by simp; omega) (by omega)
      rw [show j / 3 * 3 + j % 3 = j by omega, hj, hget _ (by omega)] at e
      have := (hf (j / 3) (by omega)).1 (j % 3) u e.symm
      rwa [show j / 3 * 3 + j % 3 = j by omega] at this
    · have hk2 : k < n := by simpa using hk
      rw [hget k hk2]
      exact (hf k hk2).2
end
end Go.Proofs.Ytaegphgjdffgaaa
