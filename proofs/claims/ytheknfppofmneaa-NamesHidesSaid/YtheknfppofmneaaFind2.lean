/- names.at, names.Find; the reference's Find and Few. -/
import Derived.Test.YtheknfppofmneaaFind
namespace Go.Proofs.Ytheknfppofmneaa
open Go.RowKit

set_option maxHeartbeats 1000000 in
theorem At_any (f : ByteArray) (A : Option Addr) (c : Nat) (l : List Wd) (w : World) (hx : 0 < l.length → ∃ ad, A = some ad ∧ CellsW w ad l) (hc : l.length ≤ 1000000) (hs : ∀ x ∈ l, x.nm.size ≤ 140737488355327) :
    Calls Try.prog 22 #[.slice A l.length c, .func (.func 23) #[.string f] #[]] w fun e w' => e = .returned (.int .i64 (l.findIdx (isW f))) ∧ Below w.heap.size w w' := by
  rcases Nat.eq_zero_or_pos l.length with h0 | h0
  · obtain rfl : l = [] := List.eq_nil_of_length_eq_zero h0
    clear hx hs
    go_enter Try.func22, Try.ntmps22
    go_wp2
    go_loopw [8] (fun i wr => i = .int .i64 0 ∧ wr = w) (fun _ _ => 0)
    case atStart => exact ⟨rfl, rfl⟩
    case round =>
      obtain ⟨rfl, rfl⟩ := hrel
      go_wp2
      go_ret
      exact ⟨rfl, Below.refl _ _⟩
  · obtain ⟨ad, rfl, hcell⟩ := hx h0
    clear hx
    have hle := List.findIdx_le_length (p := isW f) (xs := l)
    have HC := Lib.hid hcell
    have HS := Lib.hid hs
    obtain ⟨k, hke⟩ : ∃ k, l.findIdx (isW f) = k := ⟨_, rfl⟩
    rw [hke]
    rw [hke] at hle
    have HK := Lib.hid hke
    clear hcell hs hke
    go_enter Try.func22, Try.ntmps22
    go_wp2_with fail
    refine (IndexFunc_any f ad c l _ HC.out hc HS.out).mono ?_
    rintro e w1 ⟨rfl, hb⟩
    have HB := Lib.hid hb
    clear hb
    rw [HK.out]
    by_cases hk : k < l.length
    · rw [idxR, if_pos hk]
      go_wp2
      go_ret
      exact ⟨rfl, HB.out⟩
    · obtain rfl : k = l.length := by omega
      rw [idxR, if_neg hk]
      go_wp2
      go_ret
      exact ⟨rfl, HB.out⟩

/-- The place of the newest one. -/
def findN (l : List Wd) (f : ByteArray) : Int := (l.length : Int) - 1 - l.reverse.findIdx (isW f)

set_option maxHeartbeats 1000000 in
theorem Find_any (A : Option Addr) (c : Nat) (l : List Wd) (name : ByteArray) (w : World) (hx : RdW w A c l) (hc : l.length ≤ 1000000) (hs : ∀ x ∈ l, x.nm.size ≤ 140737488355327) (hn : name.size ≤ 140737488355327) :
    Calls Try.prog 14 #[.slice A l.length c, .string name] w fun e w' => e = .returned (.int .i64 (findN l (foldB name))) ∧ Below w.heap.size w w' := by
  have hle := List.findIdx_le_length (p := isW (foldB name)) (xs := l.reverse)
  rw [List.length_reverse] at hle
  obtain ⟨k, hk⟩ : ∃ k, l.reverse.findIdx (isW (foldB name)) = k := ⟨_, rfl⟩
  rw [findN, hk]
  rw [hk] at hle
  have HK := Lib.hid hk
  have HX := Lib.hid hx
  have HS := Lib.hid hs
  clear hx hs hk
  have hmf : ∀ (fn : Fn) (first cap : Array Value) (w : World), (Instr.makeFunc fn first cap).run Try.prog w = .ok (.func fn first cap) w := fun _ _ _ _ => rfl
  go_enter Try.func14, Try.ntmps14
  go_wp2_with fail
  refine (CloneW_any A c l _ HX.out (by omega)).mono ?_
  rintro e w1 ⟨x, rfl, ho, hb⟩
  have HO := Lib.hid ho
  have HB := Lib.hid hb
  clear ho hb
  go_wp2_with fail
  refine (ReverseW_any w.heap.size x l _ HO.out hc).mono ?_
  rintro e w2 ⟨rfl, ⟨A1, c1, rfl, hcell⟩, hb⟩
  have HC := Lib.hid hcell
  have HB2 := Lib.hid (HB.out.trans hb)
  clear hcell hb HO HX
  go_wp2_with fail
  refine (Fold_any name _ hn).mono ?_
  rintro e w3 ⟨rfl, hb⟩
  have HC2 : Hid (0 < l.reverse.length → ∃ ad, A1 = some ad ∧ CellsW w3 ad l.reverse) := Lib.hid (fun h => by
    obtain ⟨ad, e, hcell⟩ := HC.out (by simpa using h)
    exact ⟨ad, e, CellsW.below hcell hb⟩)
  have HB3 := Lib.hid (below_two HB2.out hb)
  clear hb HC
  go_wp2_with fail
  have hat := At_any (foldB name) A1 c1 l.reverse w3 HC2.out (by simpa using hc) (fun x hx => HS.out x (by simpa using hx))
  rw [List.length_reverse, HK.out] at hat
  refine hat.mono ?_
  rintro e w4 ⟨rfl, hb⟩
  have HB4 := Lib.hid (below_two HB3.out hb)
  clear hb hat
  go_wp2
  go_ret
  exact ⟨rfl, HB4.out⟩
theorem findN_at {l : List Wd} {f : ByteArray} {k : Nat} (hk : k < l.length) (h1 : isW f l[k]! = true) (h2 : ∀ j, k < j → j < l.length → isW f l[j]! = false) : findN l f = k := by
  have e : l.reverse.findIdx (isW f) = l.length - 1 - k := by
    rw [List.findIdx_eq (by rw [List.length_reverse]; omega)]
    refine ⟨?_, fun j hj => ?_⟩
    · rw [List.getElem_reverse]
      rw [getElem!_pos l k hk] at h1
      have : l.length - 1 - (l.length - 1 - k) = k := by omega
      simp only [this]
      exact h1
    · rw [List.getElem_reverse]
      have := h2 (l.length - 1 - j) (by omega) (by omega)
      rw [getElem!_pos l _ (by omega)] at this
      exact this
  rw [findN, e]
  omega
theorem findN_none {l : List Wd} {f : ByteArray} (h2 : ∀ j, j < l.length → isW f l[j]! = false) : findN l f = -1 := by
  have e : l.reverse.findIdx (isW f) = l.reverse.length := by
    apply List.findIdx_eq_length.2
    intro x hx
    obtain ⟨j, hj, rfl⟩ := List.getElem_of_mem (List.mem_reverse.1 hx)
    have := h2 j hj
    rw [getElem!_pos l j hj] at this
    exact this
  rw [findN, e, List.length_reverse]
  omega

theorem eq_toList (a b : ByteArray) : (a.toList == b.toList) = decide (a = b) := by
  rw [ByteArray.toList_eq, ByteArray.toList_eq, Bool.eq_iff_iff]
  simp only [beq_iff_eq, decide_eq_true_eq]
  constructor
  · intro h
    apply ByteArray.ext
    exact Array.toList_inj.1 h
  · intro h
    rw [h]

set_option maxHeartbeats 1000000 in
theorem RFind_any (A : Option Addr) (c : Nat) (l : List Wd) (name : ByteArray) (w : World) (hx : RdW w A c l) (hc : l.length ≤ 1000000) (hs : ∀ x ∈ l, x.nm.size ≤ 140737488355327) (hn : name.size ≤ 140737488355327) :
    Calls Try.prog 15 #[.slice A l.length c, .string name] w fun e w' => e = .returned (.int .i64 (findN l (foldB name))) ∧ Below w.heap.size w w' := by
  have HX : Hid (0 < l.length → ∃ ad, A = some ad ∧ CellsW w ad l) := Lib.hid (fun h => RdW.all hx h)
  have HS := Lib.hid hs
  obtain ⟨r, hr⟩ : ∃ r, findN l (foldB name) = r := ⟨_, rfl⟩
  rw [hr]
  have HR := Lib.hid hr
  have hle := hx.le
  clear hx hs hr
  go_enter Try.func15, Try.ntmps15
  go_wp2_with fail
  go_loopw [5] (fun i wr => ∃ k : Nat, i = .int .i64 ((k : Int) - 1) ∧ k ≤ l.length ∧ Hid (∀ j, k ≤ j → j < l.length → isW (foldB name) l[j]! = false) ∧ Hid (Below w.heap.size w wr)) (fun i _ => (intOf i + 1).toNat)
  case atStart => exact ⟨l.length, rfl, by omega, Lib.hid (fun j h1 h2 => by omega), Lib.hid (Below.refl _ _)⟩
  case round =>
    obtain ⟨k, rfl, hk, HN, HB⟩ := hrel
    rcases Nat.eq_zero_or_pos k with h0 | h0
    · subst h0
      have hr := HR.out
      rw [findN_none (fun j hj => HN.out j (by omega) hj)] at hr
      subst hr
      go_wp2
      go_ret
      exact ⟨rfl, HB.out⟩
    · obtain ⟨m, rfl⟩ : ∃ m, k = m + 1 := ⟨k - 1, by omega⟩
      obtain ⟨ad, rfl, hcell⟩ := HX.out (by omega)
      obtain ⟨c0, c1, c2, c3⟩ := CellsW.load (CellsW.below hcell HB.out) (k := m) (by omega)
      have hm := HS.out l[m]! (by rw [getElem!_pos l m (by omega)]; exact List.getElem_mem _)
      obtain ⟨x, hxk⟩ : ∃ x, l[m]! = x := ⟨_, rfl⟩
      rw [hxk] at c0 c1 c2 c3 hm
      have HK := Lib.hid hxk
      have em : ((m + 1 : Nat) : Int) - 1 = m := by omega
      rw [em]
      clear hxk hcell
      obtain ⟨nm, code, now, hid⟩ := x
      simp only at c0 c3 hm
      cases hid with
      | true =>
        go_wp2
        go_roundw
        case rel => exact ⟨m, by go_num, by omega, Lib.hid (fun j h1 h2 => by
          rcases Nat.eq_or_lt_of_le h1 with h3 | h3
          · subst h3; rw [HK.out]; rfl
          · exact HN.out j (by omega) h2), HB⟩
        case measure => simp [intOf] <;> omega
      | false =>
        go_wp2_with fail
        refine (RFold_any nm _ hm).mono ?_
        rintro e w2 ⟨rfl, hb⟩
        have HB2 := Lib.hid (below_two HB.out hb)
        clear hb c0 c1 c2 c3
        go_wp2_with fail
        refine (RFold_any name _ hn).mono ?_
        rintro e w3 ⟨rfl, hb⟩
        have HB3 := Lib.hid (below_two HB2.out hb)
        clear hb
        have heq := eq_toList (foldB nm) (foldB name)
        by_cases he : foldB nm = foldB name
        · rw [decide_eq_true he] at heq
          have hr := HR.out
          rw [findN_at (k := m) (by omega) (by rw [HK.out]; simp [isW, he]) (fun j h1 h2 => HN.out j (by omega) h2)] at hr
          subst hr
          go_wp2
          go_ret
          exact ⟨rfl, HB3.out⟩
        · rw [decide_eq_false he] at heq
          go_wp2
          go_roundw
          case rel => exact ⟨m, by go_num, by omega, Lib.hid (fun j h1 h2 => by
            rcases Nat.eq_or_lt_of_le h1 with h3 | h3
            · subst h3; rw [HK.out]; simp [isW, he]
            · exact HN.out j (by omega) h2), HB3⟩
          case measure => simp [intOf] <;> omega

def fewW (l : List Wd) : Bool := decide (l.length ≤ 30) && l.all fun x => decide (x.nm.size ≤ 60)
theorem fewW_yes {l : List Wd} (h : fewW l = true) : l.length ≤ 30 ∧ ∀ x ∈ l, x.nm.size ≤ 60 := by simpa [fewW] using h
set_option maxHeartbeats 1000000 in
theorem Few_any (A : Option Addr) (c : Nat) (l : List Wd) (b : Bool) (w : World) (hb : fewW l = b) (hx : RdW w A c l) :
    Calls Try.prog 13 #[.slice A l.length c] w fun e w' => e = .returned (.bool b) ∧ w = w' := by
  have HB := Lib.hid hb
  clear hb
  have HX : Hid (0 < l.length → ∃ ad, A = some ad ∧ CellsW w ad l) := Lib.hid (fun h => RdW.all hx h)
  have hle := hx.le
  have hc := hx.cap
  unfold maxLen at hc
  clear hx
  go_enter Try.func13, Try.ntmps13
  go_wp2_with fail
  go_loop [3] (fun i => ∃ k : Nat, i = .int .i64 k ∧ k ≤ l.length ∧ k ≤ 31 ∧ Hid (∀ j, j < k → (l[j]!).nm.size ≤ 60)) (fun i => l.length - (intOf i).toNat)
  case atStart => exact ⟨0, rfl, by omega, by omega, Lib.hid (fun j h => by omega)⟩
  case round =>
    obtain ⟨k, rfl, hk, hk2, HN⟩ := hrel
    by_cases hlt : k < l.length
    · by_cases h31 : k < 31
      · obtain ⟨ad, rfl, hcell⟩ := HX.out (by omega)
        obtain ⟨c0, c1, c2, c3⟩ := CellsW.load hcell hlt
        obtain ⟨x, hxk⟩ : ∃ x, l[k]! = x := ⟨_, rfl⟩
        rw [hxk] at c0 c1 c2 c3
        have HK := Lib.hid hxk
        clear hxk hcell
        by_cases h60 : 60 < x.nm.size
        · go_wp2
          go_ret
          refine ⟨ret_bool ?_, rfl⟩
          rw [← HB.out, fewW]
          symm
          rw [Bool.and_eq_false_iff]
          right
          rw [List.all_eq_false]
          refine ⟨l[k]!, by rw [getElem!_pos l k hlt]; exact List.getElem_mem hlt, ?_⟩
          rw [HK.out]
          simpa using h60
        · go_wp2
          go_round
          case rel => exact ⟨k + 1, by go_num, by omega, by omega, Lib.hid (fun j hj => by
            rcases Nat.lt_or_ge j k with h1 | h1
            · exact HN.out j h1
            · obtain rfl : j = k := by omega
              rw [HK.out]; omega)⟩
          case measure => simp [intOf] <;> omega
      · go_wp2
        go_ret
        refine ⟨ret_bool ?_, rfl⟩
        rw [← HB.out, fewW, decide_eq_false (by omega), decide_eq_false (by omega)]
        rfl
    · obtain rfl : k = l.length := by omega
      go_wp2
      go_ret
      refine ⟨ret_bool ?_, rfl⟩
      have ha : (l.all fun x => decide (x.nm.size ≤ 60)) = true := by
        rw [List.all_eq_true]
        intro x hx
        obtain ⟨j, hj, rfl⟩ := List.getElem_of_mem hx
        have := HN.out j hj
        rw [getElem!_pos l j hj] at this
        simpa using this
      rw [← HB.out, fewW, ha, Bool.and_true]
      simp only [decide_eq_decide]
      omega
end Go.Proofs.Ytheknfppofmneaa
