
/- Words (api.Word) in memory: cloned, turned round. -/
import Derived.Shelf.SlicesQ.Reverse
import Derived.Lib.OwnBridge
import Derived.Lib.SliceRun
import Derived.Test.YtiliddklaklekaaDoorFoldA
namespace Go.Proofs.YtiliddklaklekaaDoor
open Go.RowKit

structure Wd where
  nm : ByteArray
  code : Int
  now : Bool
  hid : Bool
instance : Inhabited Wd := ⟨⟨ByteArray.empty, 0, false, false⟩⟩
def encW (x : Wd) : List Value := [.string x.nm, .int .i64 x.code, .bool x.now, .bool x.hid]
def wcells (l : List Wd) : List Value := l.flatMap encW
theorem wcells_len : ∀ l : List Wd, (wcells l).length = l.length * 4
  | [] => rfl
  | x :: l => by
    have := wcells_len l
    rw [wcells] at this
    simp [wcells, encW, this]
    omega
theorem wcells_app (l r : List Wd) : wcells (l ++ r) = wcells l ++ wcells r := by simp [wcells]
theorem wcells_get : ∀ (l : List Wd) (k c : Nat) (_ : k < l.length) (_ : c < 4), (wcells l)[k * 4 + c]? = (encW l[k]!)[c]?
  | x :: l, 0, c, _, hc => by
    simp only [wcells, List.flatMap_cons, Nat.zero_mul, Nat.zero_add]
    rw [List.getElem?_append_left (by simpa [encW] using hc)]
    rfl
  | x :: l, k + 1, c, hk, hc => by
    have := wcells_get l k c (by simpa using hk) hc
    simp only [wcells, List.flatMap_cons]
    rw [List.getElem?_append_right (by simp [encW]; omega), show (k + 1) * 4 + c - (encW x).length = k * 4 + c by simp [encW]; omega]
    simpa [wcells] using this
abbrev RdW (w : World) (A : Option Addr) (c : Nat) (l : List Wd) : Prop := Rd w A l.length c 4 (wcells l)
/-- Cell by cell, behind one address. -/
def CellsW (w : World) (ad : Addr) (l : List Wd) : Prop := ∀ k c v, k < l.length → (encW l[k]!)[c]? = some v → w.cell? (ad.add (k * 4 + c)) = some v
theorem encW_lt {x : Wd} {c : Nat} {v : Value} (h : (encW x)[c]? = some v) : c < 4 := by
  have := (List.getElem?_eq_some_iff.1 h).1
  simpa [encW] using this
theorem RdW.all {w : World} {A : Option Addr} {c : Nat} {l : List Wd} (h : RdW w A c l) (h0 : 0 < l.length) : ∃ ad, A = some ad ∧ CellsW w ad l := by
  obtain ⟨ad, rfl, _⟩ := h.cell 0 _ (List.getElem?_eq_getElem (by rw [wcells_len]; omega))
  refine ⟨ad, rfl, fun k j v hk hv => ?_⟩
  obtain ⟨ad', e, hc⟩ := h.cell (k * 4 + j) v (by rw [wcells_get l k j hk (encW_lt hv)]; exact hv)
  cases e
  exact hc
theorem CellsW.below {w w' : World} {ad : Addr} {l : List Wd} (h : CellsW w ad l) (hb : Below w.heap.size w w') : CellsW w' ad l := fun k c v hk hv =>
  (hb.cell (World.block_lt_of_cell? w _ (h k c v hk hv))).trans (h k c v hk hv)
/-- One word's four. -/
theorem CellsW.four {w : World} {ad : Addr} {l : List Wd} (h : CellsW w ad l) {k : Nat} (hk : k < l.length) :
    w.cell? (ad.add (k * 4)) = some (.string l[k]!.nm) ∧ w.cell? (ad.add (k * 4 + 1)) = some (.int .i64 l[k]!.code) ∧ w.cell? (ad.add (k * 4 + 2)) = some (.bool l[k]!.now) ∧ w.cell? (ad.add (k * 4 + 3)) = some (.bool l[k]!.hid) :=
  ⟨h k 0 _ hk rfl, h k 1 _ hk rfl, h k 2 _ hk rfl, h k 3 _ hk rfl⟩

/-- The same, as a load of the whole word asks. -/
theorem CellsW.load {w : World} {ad : Addr} {l : List Wd} (h : CellsW w ad l) {k : Nat} (hk : k < l.length) :
    w.cell? (ad.add (k * 4)) = some (.string l[k]!.nm) ∧ w.cell? ⟨(ad.add (k * 4)).block, (ad.add (k * 4)).off + 1, none⟩ = some (.int .i64 l[k]!.code) ∧ w.cell? ⟨(ad.add (k * 4)).block, (ad.add (k * 4)).off + 2, none⟩ = some (.bool l[k]!.now) ∧ w.cell? ⟨(ad.add (k * 4)).block, (ad.add (k * 4)).off + 3, none⟩ = some (.bool l[k]!.hid) := by
  have e : ∀ i, i ≠ 0 → ad.add (k * 4 + i) = ⟨(ad.add (k * 4)).block, (ad.add (k * 4)).off + i, none⟩ := fun i hi => by
    by_cases hk : k = 0
    · simp [Addr.add, hi, hk]
    · simp [Addr.add, hi, show ¬ k * 4 = 0 by omega, Nat.add_assoc]
  rw [← e 1 (by decide), ← e 2 (by decide), ← e 3 (by decide)]
  exact ⟨h k 0 _ hk rfl, h k 1 _ hk rfl, h k 2 _ hk rfl, h k 3 _ hk rfl⟩

theorem infoW : (Tryd.prog.info? 52).map (fun i => (i.zero, i.size, i.bytes)) = some (some (.agg #[.string ⟨#[]⟩, .int .i64 0, .bool false, .bool false]), 4, 32) := by kernel_rfl
theorem wcells_one (l : List Wd) : ∀ u ∈ wcells l, u.oneCell' = true := by
  intro u hu
  obtain ⟨x, _, hx⟩ := List.mem_flatMap.1 hu
  simp [encW] at hx
  rcases hx with rfl | rfl | rfl | rfl <;> rfl

theorem own_holds {w : World} {B : Nat} {x : Value} {l : List Wd} (h : w.ownsRow B 52 4 x l.length (wcells l)) (h0 : 0 < l.length) :
    ∃ g cap, x = .slice (some ⟨g, 0, none⟩) l.length cap ∧ B ≤ g ∧ Sort.HoldsK encW 4 w g 0 l.toArray := by
  obtain ⟨h1, h2⟩ := h
  rcases h2 with ⟨_, h2⟩ | ⟨g, cap, cur, rfl, hg, hh, hn, hm, hs, ht⟩
  · omega
  refine ⟨g, cap, rfl, hg, fun j hj => ?_⟩
  rw [Sort.size_flatK, List.size_toArray] at hj
  refine ⟨?_, Lib.frozen_of_heap hh _⟩
  rw [Sort.get_flatK _ _ _ _ (by simpa using hj), Lib.cell_of_heap hh]
  have h3 : cur[j]? = (wcells l)[j]? := by
    rw [← ht, List.getElem?_take_of_lt hj]
    simp
  have h4 := wcells_get l (j / 4) (j % 4) (by omega) (by omega)
  rw [show j / 4 * 4 + j % 4 = j by omega] at h4
  rw [Nat.zero_add, h3, h4, show (l.toArray[j / 4]! : Wd) = l[j / 4]! by simp]
  have h5 : j % 4 < (encW l[j / 4]!).length := by simp only [encW, List.length_cons, List.length_nil]; omega
  rw [List.getElem?_eq_getElem h5, getElem!_pos (encW l[j / 4]!) (j % 4) h5]
  rfl

end Go.Proofs.YtiliddklaklekaaDoor
