/- Words (api.Word) in memory: cloned, turned round. -/
import Derived.Shelf.SlicesQ.Reverse
import Derived.Lib.OwnBridge
import Derived.Lib.SliceRun
import Derived.Test.YtheknfppofmneaaFold
namespace Go.Proofs.Ytheknfppofmneaa
open Go.RowKit

structure Wd where
  nm : ByteArray
  code : Int
  now : Bool
  hid : Bool
instance : Inhabited Wd := ⟨⟨ByteArray.empty, 0, false, false⟩⟩
def encW (x : Wd) : List Value := [.string x.nm, .int .i64 x.code, .bool x.now, .bool x.hid]
def wcells (l : List Wd) : List Value := l.flatMap encW
theorem wcells_len : ∀ l : List Wd, (wcells l).length = l.length * 4
  | [] => rfl
  | x :: l => by
    have := wcells_len l
    rw [wcells] at this
    simp [wcells, encW, this]
    omega
theorem wcells_app (l r : List Wd) : wcells (l ++ r) = wcells l ++ wcells r := by simp [wcells]
theorem wcells_get : ∀ (l : List Wd) (k c : Nat) (_ : k < l.length) (_ : c < 4), (wcells l)[k * 4 + c]? = (encW l[k]!)[c]?
  | x :: l, 0, c, _, hc => by
    simp only [wcells, List.flatMap_cons, Nat.zero_mul, Nat.zero_add]
    rw [List.getElem?_append_left (by simpa [encW] using hc)]
    rfl
  | x :: l, k + 1, c, hk, hc => by
    have := wcells_get l k c (by simpa using hk) hc
    simp only [wcells, List.flatMap_cons]
    rw [List.getElem?_append_right (by simp [encW]; omega), show (k + 1) * 4 + c - (encW x).length = k * 4 + c by simp [encW]; omega]
    simpa [wcells] using this
abbrev RdW (w : World) (A : Option Addr) (c : Nat) (l : List Wd) : Prop := Rd w A l.length c 4 (wcells l)
/-- Cell by cell, behind one address. -/
def CellsW (w : World) (ad : Addr) (l : List Wd) : Prop := ∀ k c v, k < l.length → (encW l[k]!)[c]? = some v → w.cell? (ad.add (k * 4 + c)) = some v
theorem encW_lt {x : Wd} {c : Nat} {v : Value} (h : (encW x)[c]? = some v) : c < 4 := by
  have := (List.getElem?_eq_some_iff.1 h).1
  simpa [encW] using this
theorem RdW.all {w : World} {A : Option Addr} {c : Nat} {l : List Wd} (h : RdW w A c l) (h0 : 0 < l.length) : ∃ ad, A = some ad ∧ CellsW w ad l := by
  obtain ⟨ad, rfl, _⟩ := h.cell 0 _ (List.getElem?_eq_getElem (by rw [wcells_len]; omega))
  refine ⟨ad, rfl, fun k j v hk hv => ?_⟩
  obtain ⟨ad', e, hc⟩ := h.cell (k * 4 + j) v (by rw [wcells_get l k j hk (encW_lt hv)]; exact hv)
  cases e
  exact hc
theorem CellsW.below {w w' : World} {ad : Addr} {l : List Wd} (h : CellsW w ad l) (hb : Below w.heap.size w w') : CellsW w' ad l := fun k c v hk hv =>
  (hb.cell (World.block_lt_of_cell? w _ (h k c v hk hv))).trans (h k c v hk hv)
/-- One word's four. -/
theorem CellsW.four {w : World} {ad : Addr} {l : List Wd} (h : CellsW w ad l) {k : Nat} (hk : k < l.length) :
    w.cell? (ad.add (k * 4)) = some (.string l[k]!.nm) ∧ w.cell? (ad.add (k * 4 + 1)) = some (.int .i64 l[k]!.code) ∧ w.cell? (ad.add (k * 4 + 2)) = some (.bool l[k]!.now) ∧ w.cell? (ad.add (k * 4 + 3)) = some (.bool l[k]!.hid) :=
  ⟨h k 0 _ hk rfl, h k 1 _ hk rfl, h k 2 _ hk rfl, h k 3 _ hk rfl⟩

/-- The same, as a load of the whole word asks. -/
theorem CellsW.load {w : World} {ad : Addr} {l : List Wd} (h : CellsW w ad l) {k : Nat} (hk : k < l.length) :
    w.cell? (ad.add (k * 4)) = some (.string l[k]!.nm) ∧ w.cell? ⟨(ad.add (k * 4)).block, (ad.add (k * 4)).off + 1, none⟩ = some (.int .i64 l[k]!.code) ∧ w.cell? ⟨(ad.add (k * 4)).block, (ad.add (k * 4)).off + 2, none⟩ = some (.bool l[k]!.now) ∧ w.cell? ⟨(ad.add (k * 4)).block, (ad.add (k * 4)).off + 3, none⟩ = some (.bool l[k]!.hid) := by
  have e : ∀ i, i ≠ 0 → ad.add (k * 4 + i) = ⟨(ad.add (k * 4)).block, (ad.add (k * 4)).off + i, none⟩ := fun i hi => by
    by_cases hk : k = 0
    · simp [Addr.add, hi, hk]
    · simp [Addr.add, hi, show ¬ k * 4 = 0 by omega, Nat.add_assoc]
  rw [← e 1 (by decide), ← e 2 (by decide), ← e 3 (by decide)]
  exact ⟨h k 0 _ hk rfl, h k 1 _ hk rfl, h k 2 _ hk rfl, h k 3 _ hk rfl⟩

theorem infoW : (Try.prog.info? 31).map (fun i => (i.zero, i.size, i.bytes)) = some (some (.agg #[.string ⟨#[]⟩, .int .i64 0, .bool false, .bool false]), 4, 32) := by kernel_rfl
theorem wcells_one (l : List Wd) : ∀ u ∈ wcells l, u.oneCell' = true := by
  intro u hu
  obtain ⟨x, _, hx⟩ := List.mem_flatMap.1 hu
  simp [encW] at hx
  rcases hx with rfl | rfl | rfl | rfl <;> rfl

set_option maxHeartbeats 1000000 in
theorem CloneW_any (A : Option Addr) (c : Nat) (l : List Wd) (w : World) (hx : RdW w A c l) (hl : l.length * 32 ≤ 140737488355328) :
    Calls Try.prog 20 #[.slice A l.length c] w fun e w' => ∃ x, e = .returned x ∧ w'.ownsRow w.heap.size 31 4 x l.length (wcells l) ∧ Below w.heap.size w w' := by
  have q22 : ∀ (w : World) (a : Option Addr) (n c n' c' : Nat), (binOp .eql 26 (.slice a n c) (.slice none n' c')).run Try.prog w = .ok (.bool a.isNone) w := fun w a n c n' c' => Lib.run_eql_slice_nil w _ _ a n c n' c' Try.underlying26
  cases A with
  | none =>
    have h1 := hx.nil rfl
    have h2 := hx.le
    have h3 : l.length = 0 := by omega
    obtain rfl : l = [] := List.eq_nil_of_length_eq_zero h3
    subst h1
    clear hx h2 h3
    go_enter Try.func20, Try.ntmps20
    go_wp2
    go_ret
    exact ⟨_, rfl, ⟨rfl, .inl ⟨rfl, rfl⟩⟩, Below.refl _ _⟩
  | some ad =>
    have HX := Lib.hid (hx.below (below_lit w (.cells #[] 31)))
    have HO : Hid ((w.alloc (.cells #[] 31)).ownsRow w.heap.size 31 4 (.slice (some ⟨w.heap.size, 0, none⟩) 0 0) 0 []) := Lib.hid (own_empty (heap_alloc_new _ _) (Nat.le_refl _))
    have HB := Lib.hid (below_lit w (.cells #[] 31))
    clear hx
    go_enter Try.func20, Try.ntmps20
    go_wp2_with (refine wp_app (w0 := w) rfl (.tmp 5) (.tmp 6) 26 31 _ 4 32 rfl Try.underlying26 infoW rfl (by decide) (by decide) w.heap.size _ 0 [] rfl HO.out (some ad) l.length c (wcells l) rfl HX.out (wcells_one l) (by omega) HB.out.size HB.out ?_)
    intro v1 w1 ho hb _
    have HO2 := Lib.hid ho
    have HB2 := Lib.hid hb
    clear ho hb
    go_wp2
    go_ret
    exact ⟨_, rfl, by simpa using HO2.out, HB2.out⟩
def reverseW_ren : Go.Shelf.Ren := ⟨fun | 35 => 21 | n => n, fun | 22 => 26 | 23 => 31 | 3 => 3 | 4 => 4 | 0 => 0 | n => n, fun | n => n⟩
theorem reverseW : Go.Proofs.SlLaysE0.n35 Try.prog reverseW_ren := {
  mixed := by kernel_rfl
  f35 := ⟨Try.f21.name, by decide, Try.func21.trans (congrArg some (by kernel_rfl))⟩
  t0 := Try.underlying0
  a0 := Try.isAgg0
  z0 := Try.sizeOf0
  v0 := Try.zeroValue0
  t3 := Try.underlying3
  a3 := Try.isAgg3
  z3 := Try.sizeOf3
  v3 := Try.zeroValue3
  t4 := Try.underlying4
  a4 := Try.isAgg4
  z4 := Try.sizeOf4
  v4 := Try.zeroValue4
  t22 := Try.underlying26
  a22 := Try.isAgg26
  z22 := Try.sizeOf26
  v22 := Try.zeroValue26 }

theorem own_holds {w : World} {B : Nat} {x : Value} {l : List Wd} (h : w.ownsRow B 31 4 x l.length (wcells l)) (h0 : 0 < l.length) :
    ∃ g cap, x = .slice (some ⟨g, 0, none⟩) l.length cap ∧ B ≤ g ∧ Sort.HoldsK encW 4 w g 0 l.toArray := by
  obtain ⟨h1, h2⟩ := h
  rcases h2 with ⟨_, h2⟩ | ⟨g, cap, cur, rfl, hg, hh, hn, hm, hs, ht⟩
  · omega
  refine ⟨g, cap, rfl, hg, fun j hj => ?_⟩
  rw [Sort.size_flatK, List.size_toArray] at hj
  refine ⟨?_, Lib.frozen_of_heap hh _⟩
  rw [Sort.get_flatK _ _ _ _ (by simpa using hj), Lib.cell_of_heap hh]
  have h3 : cur[j]? = (wcells l)[j]? := by
    rw [← ht, List.getElem?_take_of_lt hj]
    simp
  have h4 := wcells_get l (j / 4) (j % 4) (by omega) (by omega)
  rw [show j / 4 * 4 + j % 4 = j by omega] at h4
  rw [Nat.zero_add, h3, h4, show (l.toArray[j / 4]! : Wd) = l[j / 4]! by simp]
  have h5 : j % 4 < (encW l[j / 4]!).length := by simp only [encW, List.length_cons, List.length_nil]; omega
  rw [List.getElem?_eq_getElem h5, getElem!_pos (encW l[j / 4]!) (j % 4) h5]
  rfl

theorem ReverseW_any (B : Nat) (x : Value) (l : List Wd) (w : World) (h : w.ownsRow B 31 4 x l.length (wcells l)) (hl : l.length ≤ 1000000) :
    Calls Try.prog 21 #[x] w fun e w' => e = .returned (.tuple #[]) ∧ (∃ A c, x = .slice A l.length c ∧ (0 < l.length → ∃ ad, A = some ad ∧ CellsW w' ad l.reverse)) ∧ Below B w w' := by
  rcases Nat.eq_zero_or_pos l.length with h0 | h0
  · obtain ⟨A, c, rfl, _⟩ := Rd.own h
    rw [h0]
    refine (AnyQ.slices_Reverse_empty reverseW A c w).mono ?_
    rintro e w' ⟨rfl, rfl⟩
    exact ⟨rfl, ⟨A, c, rfl, fun h => absurd h (by omega)⟩, Below.refl _ _⟩
  · obtain ⟨g, cap, rfl, hg, hH⟩ := own_holds h h0
    have := AnyQ.slices_Reverse reverseW 4 Try.isAgg31 Try.sizeOf31 encW (fun _ => rfl) (fun x v hv => by simp [encW] at hv; rcases hv with rfl | rfl | rfl | rfl <;> rfl) g 0 cap l.toArray w hH (by simp; omega)
    rw [List.size_toArray] at this
    refine this.mono ?_
    rintro e w' ⟨rfl, n, rfl⟩
    have hH2 := Sort.holdsK_putRowK (enc := encW) (k := 4) (Sort.ahead w n) g 0 l.toArray l.toArray.reverse (show Sort.HoldsK encW 4 (Sort.ahead w n) g 0 l.toArray from hH) (by simp)
    refine ⟨rfl, ⟨_, _, rfl, fun _ => ⟨_, rfl, fun k c v hk hv => ?_⟩⟩, Lib.below_putRow (Below.refl _ _) hg⟩
    have hk2 : k < l.length := by simpa using hk
    have := HoldsK.cells hH2 (fun _ => rfl) (i := k) (by simpa using hk2) c v (by
      rw [show (l.toArray.reverse[k]! : Wd) = l.reverse[k]! by simp]
      exact hv)
    rw [Addr.add_lit] at this ⊢
    simpa [Nat.add_assoc] using this
end Go.Proofs.Ytheknfppofmneaa
