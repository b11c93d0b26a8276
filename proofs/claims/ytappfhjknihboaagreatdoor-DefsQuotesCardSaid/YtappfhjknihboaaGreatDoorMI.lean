/-  -/
import Derived.Test.YtappfhjknihboaaGreatDoorMA

/- names.Find and the reference's. -/
namespace Go.Proofs.YtappfhjknihboaaGreatDoor.L07
open Go.RowKit

/-- Has the word that (folded) name, unhidden? -/
def idxR (n k : Nat) : Int := if k < n then k else -1
theorem ret_bool {a b : Bool} (h : a = b) : Ending.returned (.bool a) = .returned (.bool b) := by rw [h]
def isW (f : ByteArray) (x : Wd) : Bool := !x.hid && decide (foldB x.nm = f)

set_option maxHeartbeats 1000000 in
theorem Is_any (f : ByteArray) (x : Wd) (b : Bool) (w : World) (hb : isW f x = b) (hs : x.nm.size ≤ 140737488355327) :
    Calls Tryz.prog 91 #[.string f, .agg #[.string x.nm, .int .i64 x.code, .bool x.now, .bool x.hid]] w fun e w' => e = .returned (.bool b) ∧ Below w.heap.size w w' := by
  have HB := Lib.hid hb
  clear hb
  obtain ⟨nm, code, now, hid⟩ := x
  cases hid with
  | true =>
    obtain rfl : b = false := by have := HB.out; simp [isW] at this; exact this
    go_enter Tryz.func91, Tryz.ntmps91
    go_wp2
    go_ret
    exact ⟨rfl, below_lit _ _⟩
  | false =>
    have HBL := Lib.hid (below_lit w (.cells #[.string nm, .int .i64 code, .bool now, .bool false] 47))
    go_enter Tryz.func91, Tryz.ntmps91
    go_wp2_with fail
    refine (Fold_any nm _ hs).mono ?_
    rintro e w1 ⟨rfl, hb⟩
    have HB1 := Lib.hid (below_two HBL.out hb)
    clear hb
    go_wp2
    go_ret
    refine ⟨ret_bool ?_, HB1.out⟩
    have := HB.out
    rw [← this]
    simp only [isW, Bool.not_false, Bool.true_and]
    rw [ByteArray.toList_eq, ByteArray.toList_eq, Bool.eq_iff_iff]
    simp only [beq_iff_eq, decide_eq_true_eq]
    constructor
    · intro h
      apply ByteArray.ext
      exact Array.toList_inj.1 h
    · intro h
      rw [h]

set_option maxHeartbeats 1000000 in
theorem IndexFunc_any (f : ByteArray) (ad : Addr) (c : Nat) (l : List Wd) (w : World) (hx : CellsW w ad l) (hc : l.length ≤ 1000000) (hs : ∀ x ∈ l, x.nm.size ≤ 140737488355327) :
    Calls Tryz.prog 119 #[.slice (some ad) l.length c, .func (.func 91) #[.string f] #[]] w fun e w' => e = .returned (.int .i64 (idxR l.length (l.findIdx (isW f)))) ∧ Below w.heap.size w w' := by
  go_enter Tryz.func119, Tryz.ntmps119
  go_wp2_with fail
  have HX := Lib.hid hx
  clear hx
  go_loopw [8] (fun i wr => ∃ k : Nat, i = .int .i64 k ∧ k ≤ l.length ∧ Hid (∀ j, j < k → isW f l[j]! = false) ∧ Hid (Below w.heap.size w wr)) (fun i _ => l.length - (intOf i).toNat)
  case atStart => exact ⟨0, rfl, by omega, Lib.hid (fun j hj => by omega), Lib.hid (Below.refl _ _)⟩
  case round =>
    obtain ⟨k, rfl, hk, HN, HB⟩ := hrel
    by_cases hlt : k < l.length
    · obtain ⟨c0, c1, c2, c3⟩ := CellsW.load (CellsW.below HX.out HB.out) hlt
      have hm := hs l[k]! (by rw [getElem!_pos l k hlt]; exact List.getElem_mem hlt)
      obtain ⟨x, hxk⟩ : ∃ x, l[k]! = x := ⟨_, rfl⟩
      rw [hxk] at c0 c1 c2 c3 hm
      have HK := Lib.hid hxk
      clear hxk
      go_wp2_with fail
      refine (Is_any f x _ _ rfl hm).mono ?_
      rintro e w2 ⟨rfl, hb⟩
      have HB2 := Lib.hid (below_two HB.out hb)
      clear hb c0 c1 c2 c3
      cases hi : isW f x with
      | true =>
        have hf : l.findIdx (isW f) = k := by
          have hlt2 : k < l.length := hlt
          rw [List.findIdx_eq hlt2]
          have e1 := HK.out
          rw [getElem!_pos l k hlt] at e1
          refine ⟨by rw [e1]; exact hi, fun j hj => ?_⟩
          have e2 := HN.out j hj
          rw [getElem!_pos l j (by omega)] at e2
          exact e2
        have HF := Lib.hid hf
        clear hf hi
        go_wp2
        go_ret
        refine ⟨?_, HB2.out⟩
        rw [HF.out, idxR, if_pos hlt]
        rfl
      | false =>
        have HI := Lib.hid hi
        clear hi
        go_wp2
        go_roundw
        case rel => exact ⟨k + 1, by go_num, by omega, Lib.hid (fun j hj => by
          rcases Nat.lt_or_ge j k with h1 | h1
          · exact HN.out j h1
          · obtain rfl : j = k := by omega
            rw [HK.out]; exact HI.out), HB2⟩
        case measure => simp [intOf] <;> omega
    · obtain rfl : k = l.length := by omega
      go_wp2
      go_ret
      refine ⟨?_, HB.out⟩
      have hf : l.findIdx (isW f) = l.length := by
        apply List.findIdx_eq_length.2
        intro x hx
        obtain ⟨j, hj, rfl⟩ := List.getElem_of_mem hx
        have := HN.out j hj
        rw [getElem!_pos l j hj] at this
        exact this
      rw [hf, idxR, if_neg (by omega)]
      rfl
end Go.Proofs.YtappfhjknihboaaGreatDoor.L07


/- names.at, names.Find; the reference's Find and Few. -/
namespace Go.Proofs.YtappfhjknihboaaGreatDoor.L07
open Go.RowKit

set_option maxHeartbeats 1000000 in
theorem At_any (f : ByteArray) (A : Option Addr) (c : Nat) (l : List Wd) (w : World) (hx : 0 < l.length → ∃ ad, A = some ad ∧ CellsW w ad l) (hc : l.length ≤ 1000000) (hs : ∀ x ∈ l, x.nm.size ≤ 140737488355327) :
    Calls Tryz.prog 90 #[.slice A l.length c, .func (.func 91) #[.string f] #[]] w fun e w' => e = .returned (.int .i64 (l.findIdx (isW f))) ∧ Below w.heap.size w w' := by
  rcases Nat.eq_zero_or_pos l.length with h0 | h0
  · obtain rfl : l = [] := List.eq_nil_of_length_eq_zero h0
    clear hx hs
    go_enter Tryz.func90, Tryz.ntmps90
    go_wp2
    go_loopw [8] (fun i wr => i = .int .i64 0 ∧ wr = w) (fun _ _ => 0)
    case atStart => exact ⟨rfl, rfl⟩
    case round =>
      obtain ⟨rfl, rfl⟩ := hrel
      go_wp2
      go_ret
      exact ⟨rfl, Below.refl _ _⟩
  · obtain ⟨ad, rfl, hcell⟩ := hx h0
    clear hx
    have hle := List.findIdx_le_length (p := isW f) (xs := l)
    have HC := Lib.hid hcell
    have HS := Lib.hid hs
    obtain ⟨k, hke⟩ : ∃ k, l.findIdx (isW f) = k := ⟨_, rfl⟩
    rw [hke]
    rw [hke] at hle
    have HK := Lib.hid hke
    clear hcell hs hke
    go_enter Tryz.func90, Tryz.ntmps90
    go_wp2_with fail
    refine (IndexFunc_any f ad c l _ HC.out hc HS.out).mono ?_
    rintro e w1 ⟨rfl, hb⟩
    have HB := Lib.hid hb
    clear hb
    rw [HK.out]
    by_cases hk : k < l.length
    · rw [idxR, if_pos hk]
      go_wp2
      go_ret
      exact ⟨rfl, HB.out⟩
    · obtain rfl : k = l.length := by omega
      rw [idxR, if_neg hk]
      go_wp2
      go_ret
      exact ⟨rfl, HB.out⟩

/-- The place of the newest one. -/
def findN (l : List Wd) (f : ByteArray) : Int := (l.length : Int) - 1 - l.reverse.findIdx (isW f)

set_option maxHeartbeats 1000000 in
theorem Find_any (A : Option Addr) (c : Nat) (l : List Wd) (name : ByteArray) (w : World) (hx : RdW w A c l) (hc : l.length ≤ 1000000) (hs : ∀ x ∈ l, x.nm.size ≤ 140737488355327) (hn : name.size ≤ 140737488355327) :
    Calls Tryz.prog 32 #[.slice A l.length c, .string name] w fun e w' => e = .returned (.int .i64 (findN l (foldB name))) ∧ Below w.heap.size w w' := by
  have hle := List.findIdx_le_length (p := isW (foldB name)) (xs := l.reverse)
  rw [List.length_reverse] at hle
  obtain ⟨k, hk⟩ : ∃ k, l.reverse.findIdx (isW (foldB name)) = k := ⟨_, rfl⟩
  rw [findN, hk]
  rw [hk] at hle
  have HK := Lib.hid hk
  have HX := Lib.hid hx
  have HS := Lib.hid hs
  clear hx hs hk
  have hmf : ∀ (fn : Fn) (first cap : Array Value) (w : World), (Instr.makeFunc fn first cap).run Tryz.prog w = .ok (.func fn first cap) w := fun _ _ _ _ => rfl
  go_enter Tryz.func32, Tryz.ntmps32
  go_wp2_with fail
  refine (CloneW_any A c l _ HX.out (by omega)).mono ?_
  rintro e w1 ⟨x, rfl, ho, hb⟩
  have HO := Lib.hid ho
  have HB := Lib.hid hb
  clear ho hb
  go_wp2_with fail
  refine (ReverseW_any w.heap.size x l _ HO.out hc).mono ?_
  rintro e w2 ⟨rfl, ⟨A1, c1, rfl, hcell⟩, hb⟩
  have HC := Lib.hid hcell
  have HB2 := Lib.hid (HB.out.trans hb)
  clear hcell hb HO HX
  go_wp2_with fail
  refine (Fold_any name _ hn).mono ?_
  rintro e w3 ⟨rfl, hb⟩
  have HC2 : Hid (0 < l.reverse.length → ∃ ad, A1 = some ad ∧ CellsW w3 ad l.reverse) := Lib.hid (fun h => by
    obtain ⟨ad, e, hcell⟩ := HC.out (by simpa using h)
    exact ⟨ad, e, CellsW.below hcell hb⟩)
  have HB3 := Lib.hid (below_two HB2.out hb)
  clear hb HC
  go_wp2_with fail
  have hat := At_any (foldB name) A1 c1 l.reverse w3 HC2.out (by simpa using hc) (fun x hx => HS.out x (by simpa using hx))
  rw [List.length_reverse, HK.out] at hat
  refine hat.mono ?_
  rintro e w4 ⟨rfl, hb⟩
  have HB4 := Lib.hid (below_two HB3.out hb)
  clear hb hat
  go_wp2
  go_ret
  exact ⟨rfl, HB4.out⟩
theorem findN_at {l : List Wd} {f : ByteArray} {k : Nat} (hk : k < l.length) (h1 : isW f l[k]! = true) (h2 : ∀ j, k < j → j < l.length → isW f l[j]! = false) : findN l f = k := by
  have e : l.reverse.findIdx (isW f) = l.length - 1 - k := by
    rw [List.findIdx_eq (by rw [List.length_reverse]; omega)]
    refine ⟨?_, fun j hj => ?_⟩
    · rw [List.getElem_reverse]
      rw [getElem!_pos l k hk] at h1
      have : l.length - 1 - (l.length - 1 - k) = k := by omega
      simp only [this]
      exact h1
    · rw [List.getElem_reverse]
      have := h2 (l.length - 1 - j) (by omega) (by omega)
      rw [getElem!_pos l _ (by omega)] at this
      exact this
  rw [findN, e]
  omega
theorem findN_none {l : List Wd} {f : ByteArray} (h2 : ∀ j, j < l.length → isW f l[j]! = false) : findN l f = -1 := by
  have e : l.reverse.findIdx (isW f) = l.reverse.length := by
    apply List.findIdx_eq_length.2
    intro x hx
    obtain ⟨j, hj, rfl⟩ := List.getElem_of_mem (List.mem_reverse.1 hx)
    have := h2 j hj
    rw [getElem!_pos l j hj] at this
    exact this
  rw [findN, e, List.length_reverse]
  omega

theorem eq_toList (a b : ByteArray) : (a.toList == b.toList) = decide (a = b) := by
  rw [ByteArray.toList_eq, ByteArray.toList_eq, Bool.eq_iff_iff]
  simp only [beq_iff_eq, decide_eq_true_eq]
  constructor
  · intro h
    apply ByteArray.ext
    exact Array.toList_inj.1 h
  · intro h
    rw [h]

set_option maxHeartbeats 1000000 in
theorem RFind_any (A : Option Addr) (c : Nat) (l : List Wd) (name : ByteArray) (w : World) (hx : RdW w A c l) (hc : l.length ≤ 1000000) (hs : ∀ x ∈ l, x.nm.size ≤ 140737488355327) (hn : name.size ≤ 140737488355327) :
    Calls Tryz.prog 34 #[.slice A l.length c, .string name] w fun e w' => e = .returned (.int .i64 (findN l (foldB name))) ∧ Below w.heap.size w w' := by
  have HX : Hid (0 < l.length → ∃ ad, A = some ad ∧ CellsW w ad l) := Lib.hid (fun h => RdW.all hx h)
  have HS := Lib.hid hs
  obtain ⟨r, hr⟩ : ∃ r, findN l (foldB name) = r := ⟨_, rfl⟩
  rw [hr]
  have HR := Lib.hid hr
  have hle := hx.le
  clear hx hs hr
  go_enter Tryz.func34, Tryz.ntmps34
  go_wp2_with fail
  go_loopw [5] (fun i wr => ∃ k : Nat, i = .int .i64 ((k : Int) - 1) ∧ k ≤ l.length ∧ Hid (∀ j, k ≤ j → j < l.length → isW (foldB name) l[j]! = false) ∧ Hid (Below w.heap.size w wr)) (fun i _ => (intOf i + 1).toNat)
  case atStart => exact ⟨l.length, rfl, by omega, Lib.hid (fun j h1 h2 => by omega), Lib.hid (Below.refl _ _)⟩
  case round =>
    obtain ⟨k, rfl, hk, HN, HB⟩ := hrel
    rcases Nat.eq_zero_or_pos k with h0 | h0
    · subst h0
      have hr := HR.out
      rw [findN_none (fun j hj => HN.out j (by omega) hj)] at hr
      subst hr
      go_wp2
      go_ret
      exact ⟨rfl, HB.out⟩
    · obtain ⟨m, rfl⟩ : ∃ m, k = m + 1 := ⟨k - 1, by omega⟩
      obtain ⟨ad, rfl, hcell⟩ := HX.out (by omega)
      obtain ⟨c0, c1, c2, c3⟩ := CellsW.load (CellsW.below hcell HB.out) (k := m) (by omega)
      have hm := HS.out l[m]! (by rw [getElem!_pos l m (by omega)]; exact List.getElem_mem _)
      obtain ⟨x, hxk⟩ : ∃ x, l[m]! = x := ⟨_, rfl⟩
      rw [hxk] at c0 c1 c2 c3 hm
      have HK := Lib.hid hxk
      have em : ((m + 1 : Nat) : Int) - 1 = m := by omega
      rw [em]
      clear hxk hcell
      obtain ⟨nm, code, now, hid⟩ := x
      simp only at c0 c3 hm
      cases hid with
      | true =>
        go_wp2
        go_roundw
        case rel => exact ⟨m, by go_num, by omega, Lib.hid (fun j h1 h2 => by
          rcases Nat.eq_or_lt_of_le h1 with h3 | h3
          · subst h3; rw [HK.out]; rfl
          · exact HN.out j (by omega) h2), HB⟩
        case measure => simp [intOf] <;> omega
      | false =>
        go_wp2_with fail
        refine (RFold_any nm _ hm).mono ?_
        rintro e w2 ⟨rfl, hb⟩
        have HB2 := Lib.hid (below_two HB.out hb)
        clear hb c0 c1 c2 c3
        go_wp2_with fail
        refine (RFold_any name _ hn).mono ?_
        rintro e w3 ⟨rfl, hb⟩
        have HB3 := Lib.hid (below_two HB2.out hb)
        clear hb
        have heq := eq_toList (foldB nm) (foldB name)
        by_cases he : foldB nm = foldB name
        · rw [decide_eq_true he] at heq
          have hr := HR.out
          rw [findN_at (k := m) (by omega) (by rw [HK.out]; simp [isW, he]) (fun j h1 h2 => HN.out j (by omega) h2)] at hr
          subst hr
          go_wp2
          go_ret
          exact ⟨rfl, HB3.out⟩
        · rw [decide_eq_false he] at heq
          go_wp2
          go_roundw
          case rel => exact ⟨m, by go_num, by omega, Lib.hid (fun j h1 h2 => by
            rcases Nat.eq_or_lt_of_le h1 with h3 | h3
            · subst h3; rw [HK.out]; simp [isW, he]
            · exact HN.out j (by omega) h2), HB3⟩
          case measure => simp [intOf] <;> omega

def fewW (l : List Wd) : Bool := decide (l.length ≤ 30) && l.all fun x => decide (x.nm.size ≤ 60)
theorem fewW_yes {l : List Wd} (h : fewW l = true) : l.length ≤ 30 ∧ ∀ x ∈ l, x.nm.size ≤ 60 := by simpa [fewW] using h
end Go.Proofs.YtappfhjknihboaaGreatDoor.L07


/- names.May and the reference's: what is wrong with a name's length. (At a seat that takes FoldA in Fold's place.) -/
namespace Go.Proofs.YtappfhjknihboaaGreatDoor
open Go.RowKit
def mayN (n : Nat) : Int := if n = 0 then -16 else if 31 < n then -19 else 0
theorem May_any (s : ByteArray) (w : World) (hs : s.size ≤ maxLen) :
    Calls Tryz.prog 124 #[.string s] w fun e w' => e = .returned (.int .i64 (mayN s.size)) ∧ w = w' := by
  unfold maxLen at hs
  have he := toList_empty s
  unfold mayN
  by_cases h0 : s.size = 0
  · rw [if_pos h0]
    rw [h0] at he
    have he : s.toList.isEmpty = true := he
    go_enter Tryz.func124, Tryz.ntmps124
    go_wp2
    go_ret
    exact ⟨rfl, rfl⟩
  · rw [if_neg h0]
    have he : s.toList.isEmpty = false := by rw [he]; simpa using h0
    split
    all_goals
      go_enter Tryz.func124, Tryz.ntmps124
      go_wp2
      go_ret
      exact ⟨rfl, rfl⟩
theorem RMay_any (s : ByteArray) (w : World) (hs : s.size ≤ maxLen) :
    Calls Tryz.prog 136 #[.string s] w fun e w' => e = .returned (.int .i64 (mayN s.size)) ∧ w = w' := by
  unfold maxLen at hs
  unfold mayN
  by_cases h0 : s.size = 0
  · rw [if_pos h0]
    go_enter Tryz.func136, Tryz.ntmps136
    go_wp2
    go_ret
    exact ⟨rfl, rfl⟩
  · rw [if_neg h0]
    split
    all_goals
      go_enter Tryz.func136, Tryz.ntmps136
      go_wp2
      go_ret
      exact ⟨rfl, rfl⟩
end Go.Proofs.YtappfhjknihboaaGreatDoor
