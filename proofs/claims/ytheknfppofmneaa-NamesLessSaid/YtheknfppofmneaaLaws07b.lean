/- The walks of NamesLess and NamesSame. -/
import Derived.Test.YtheknfppofmneaaLaws07
namespace Go.Proofs.Ytheknfppofmneaa
open Go.RowKit

theorem findN_ge (l : List Wd) (f : ByteArray) : -1 ≤ findN l f := by
  have := List.findIdx_le_length (p := isW f) (xs := l.reverse)
  rw [List.length_reverse] at this
  unfold findN
  omega
/-- What is found has the name; what is behind has not. -/
theorem findN_spec {l : List Wd} {f : ByteArray} {k : Nat} (h : findN l f = k) : k < l.length ∧ isW f l[k]! = true ∧ ∀ j, k < j → j < l.length → isW f l[j]! = false := by
  have hle := List.findIdx_le_length (p := isW f) (xs := l.reverse)
  rw [List.length_reverse] at hle
  unfold findN at h
  have hlt : l.reverse.findIdx (isW f) < l.reverse.length := by rw [List.length_reverse]; omega
  have h1 := List.findIdx_getElem (w := hlt)
  have hk : k < l.length := by omega
  refine ⟨hk, ?_, fun j hj hjl => ?_⟩
  · rw [List.getElem_reverse] at h1
    rw [getElem!_pos l k hk]
    have e : l.length - 1 - l.reverse.findIdx (isW f) = k := by omega
    simp only [e] at h1
    exact h1
  · have h2 := List.not_of_lt_findIdx (p := isW f) (xs := l.reverse) (i := l.length - 1 - j) (by omega)
    rw [List.getElem_reverse] at h2
    rw [getElem!_pos l j hjl]
    have e : l.length - 1 - (l.length - 1 - j) = j := by omega
    simp only [e] at h2
    simpa using h2
theorem take_get {l : List Wd} {n j : Nat} (h : j < n) (hn : n ≤ l.length) : ((l.take n)[j]! : Wd) = l[j]! := by
  rw [getElem!_pos (l.take n) j (by rw [List.length_take]; omega), getElem!_pos l j (by omega), List.getElem_take]
theorem findN_take {l : List Wd} {f : ByteArray} {k : Nat} (h : findN l f = k) : findN (l.take (k + 1)) f = k := by
  obtain ⟨h1, h2, h3⟩ := findN_spec h
  refine findN_at (by rw [List.length_take]; omega) ?_ (fun j hj hjl => ?_)
  · rw [take_get (by omega) (by omega)]; exact h2
  · rw [List.length_take] at hjl; omega
/-- A cut of words. -/
theorem RdW.cut {w : World} {A : Option Addr} {c : Nat} {l : List Wd} (h : RdW w A c l) (m : Nat) (hm : m ≤ l.length) : RdW w A c (l.take m) := by
  have hl : (l.take m).length = m := by rw [List.length_take]; omega
  refine ⟨by rw [wcells_len], by rw [hl]; have := h.le; omega, h.cap, h.nil, fun j u hj => h.cell j u ?_⟩
  have hjl : j < m * 4 := by
    have := (List.getElem?_eq_some_iff.1 hj).1
    rw [wcells_len, hl] at this
    exact this
  have e1 := wcells_get (l.take m) (j / 4) (j % 4) (by rw [hl]; omega) (by omega)
  have e2 := wcells_get l (j / 4) (j % 4) (by omega) (by omega)
  rw [show j / 4 * 4 + j % 4 = j by omega] at e1 e2
  rw [take_get (by omega) hm, hj] at e1
  rw [e2, e1]

set_option maxHeartbeats 1000000 in
set_option maxRecDepth 100000 in
theorem NamesLess_walk (A : Option Addr) (c : Nat) (l : List Wd) (name : ByteArray) (w : World) (hx : RdW w A c l) (hn : name.size ≤ maxLen) :
    Calls Try.prog 6 #[.slice A l.length c, .string name] w fun e w' => e = .returned (.bool true) ∧ Below w.heap.size w w' := by
  have h63 := hn
  unfold maxLen at h63
  have hle := hx.le
  have hcap := hx.cap
  unfold maxLen at hcap
  have HX := Lib.hid hx
  clear hx
  go_enter Try.func6, Try.ntmps6
  go_wp2_with fail
  refine (awake_any w).mono ?_
  rintro e w1 ⟨rfl, hb⟩
  (replace HX := Lib.hid (Rd.below (Hid.out HX) hb))
  have HB := Lib.hid hb
  clear hb
  go_wp2_with fail
  cases hfe : fewW l with
  | false =>
    refine (Few_any A c l false _ hfe HX.out).mono ?_
    rintro e w' ⟨rfl, rfl⟩
    go_wp2
    go_ret
    exact ⟨rfl, HB.out⟩
  | true =>
    refine (Few_any A c l true _ hfe HX.out).mono ?_
    rintro e w' ⟨rfl, rfl⟩
    obtain ⟨h30, h60⟩ := fewW_yes hfe
    have HS : Hid (∀ x ∈ l, x.nm.size ≤ 140737488355327) := Lib.hid (fun x hx => by have := h60 x hx; omega)
    clear h60
    by_cases hl : 60 < name.size
    · go_wp2
      go_ret
      exact ⟨rfl, HB.out⟩
    have hge := findN_ge l (foldB name)
    obtain ⟨r, hr⟩ : ∃ r, findN l (foldB name) = r := ⟨_, rfl⟩
    have HR := Lib.hid hr
    rw [hr] at hge
    clear hr
    go_wp2_with fail
    refine (Find_is A c l.length l name r _ rfl HR.out HX.out (by omega) HS.out (by omega)).mono ?_
    rintro e w2 ⟨rfl, hb⟩
    (replace HX := Lib.hid (Rd.below (Hid.out HX) hb))
    have HB := Lib.hid (below_two HB.out hb)
    clear hb
    by_cases hr0 : r < 0
    · obtain rfl : r = -1 := by omega
      go_wp2
      go_ret
      exact ⟨rfl, HB.out⟩
    obtain ⟨k, rfl⟩ := Int.eq_ofNat_of_zero_le (show 0 ≤ r by omega)
    obtain ⟨hk, hk1, hk2⟩ := findN_spec HR.out
    have HK1 := Lib.hid hk1
    clear hk1 hk2
    have l1 : (l.take (k + 1)).length = k + 1 := by rw [List.length_take]; omega
    have l2 : (l.take k).length = k := by rw [List.length_take]; omega
    have L1 := Lib.hid l1
    have L2 := Lib.hid l2
    clear l1 l2
    have b1 : (k : Int) ≤ c := by omega
    have b2 : (k : Int) + 1 ≤ c := by omega
    have b3 : ((k : Int) + 1).toNat = k + 1 := by omega
    go_wp2_with fail
    refine (Find_is A c (k + 1) (l.take (k + 1)) name k _ L1.out (findN_take HR.out) (RdW.cut HX.out _ (by omega)) (by omega) (fun x hx => HS.out x (List.mem_of_mem_take hx)) (by omega)).mono ?_
    rintro e w3 ⟨rfl, hb⟩
    (replace HX := Lib.hid (Rd.below (Hid.out HX) hb))
    have HB := Lib.hid (below_two HB.out hb)
    clear hb
    have hl2 := findN_lt (l.take k) (foldB name)
    rw [L2.out] at hl2
    obtain ⟨r2, hr2⟩ : ∃ r, findN (l.take k) (foldB name) = r := ⟨_, rfl⟩
    have HR2 := Lib.hid hr2
    rw [hr2] at hl2
    clear hr2
    go_wp2_with fail
    refine (Find_is A c k (l.take k) name r2 _ L2.out HR2.out (RdW.cut HX.out _ (by omega)) (by omega) (fun x hx => HS.out x (List.mem_of_mem_take hx)) (by omega)).mono ?_
    rintro e w4 ⟨rfl, hb⟩
    (replace HX := Lib.hid (Rd.below (Hid.out HX) hb))
    have HB := Lib.hid (below_two HB.out hb)
    clear hb
    obtain ⟨ad, rfl, hcell⟩ := RdW.all HX.out (by omega)
    obtain ⟨c0, c1, c2, c3⟩ := CellsW.load hcell hk
    have hm := HS.out l[k]! (by rw [getElem!_pos l k hk]; exact List.getElem_mem _)
    have hkk := HK1.out
    obtain ⟨x, hxk⟩ : ∃ x, l[k]! = x := ⟨_, rfl⟩
    rw [hxk] at c0 c1 c2 c3 hm hkk
    clear hcell hxk
    obtain ⟨nm, code, now, hid⟩ := x
    simp only at c0 c3 hm
    simp only [isW, Bool.and_eq_true, Bool.not_eq_true', decide_eq_true_eq] at hkk
    obtain ⟨rfl, hkf⟩ := hkk
    have HKF := Lib.hid hkf
    clear hkf
    go_wp2_with fail
    refine (Fold_any nm _ hm).mono ?_
    rintro e w5 ⟨rfl, hb⟩
    have c3 := (hb.cell (World.block_lt_of_cell? _ _ c3)).trans c3
    have HB := Lib.hid (below_two HB.out hb)
    clear hb c0 c1 c2
    go_wp2_with fail
    refine (Fold_is name (foldB nm) _ HKF.out.symm (by omega)).mono ?_
    rintro e w6 ⟨rfl, hb⟩
    have c3 := (hb.cell (World.block_lt_of_cell? _ _ c3)).trans c3
    have HB := Lib.hid (below_two HB.out hb)
    clear hb
    go_wp2
    go_ret
    exact ⟨rfl, HB.out⟩
end Go.Proofs.Ytheknfppofmneaa
