/- names.Find and the reference's. -/
import Derived.Test.YtheknfppofmneaaWord
namespace Go.Proofs.Ytheknfppofmneaa
open Go.RowKit

/-- Has the word that (folded) name, unhidden? -/
def idxR (n k : Nat) : Int := if k < n then k else -1
theorem ret_bool {a b : Bool} (h : a = b) : Ending.returned (.bool a) = .returned (.bool b) := by rw [h]
def isW (f : ByteArray) (x : Wd) : Bool := !x.hid && decide (foldB x.nm = f)

set_option maxHeartbeats 1000000 in
theorem Is_any (f : ByteArray) (x : Wd) (b : Bool) (w : World) (hb : isW f x = b) (hs : x.nm.size ≤ 140737488355327) :
    Calls Try.prog 23 #[.string f, .agg #[.string x.nm, .int .i64 x.code, .bool x.now, .bool x.hid]] w fun e w' => e = .returned (.bool b) ∧ Below w.heap.size w w' := by
  have HB := Lib.hid hb
  clear hb
  obtain ⟨nm, code, now, hid⟩ := x
  cases hid with
  | true =>
    obtain rfl : b = false := by have := HB.out; simp [isW] at this; exact this
    go_enter Try.func23, Try.ntmps23
    go_wp2
    go_ret
    exact ⟨rfl, below_lit _ _⟩
  | false =>
    have HBL := Lib.hid (below_lit w (.cells #[.string nm, .int .i64 code, .bool now, .bool false] 31))
    go_enter Try.func23, Try.ntmps23
    go_wp2_with fail
    refine (Fold_any nm _ hs).mono ?_
    rintro e w1 ⟨rfl, hb⟩
    have HB1 := Lib.hid (below_two HBL.out hb)
    clear hb
    go_wp2
    go_ret
    refine ⟨ret_bool ?_, HB1.out⟩
    have := HB.out
    rw [← this]
    simp only [isW, Bool.not_false, Bool.true_and]
    rw [ByteArray.toList_eq, ByteArray.toList_eq, Bool.eq_iff_iff]
    simp only [beq_iff_eq, decide_eq_true_eq]
    constructor
    · intro h
      apply ByteArray.ext
      exact Array.toList_inj.1 h
    · intro h
      rw [h]

set_option maxHeartbeats 1000000 in
theorem IndexFunc_any (f : ByteArray) (ad : Addr) (c : Nat) (l : List Wd) (w : World) (hx : CellsW w ad l) (hc : l.length ≤ 1000000) (hs : ∀ x ∈ l, x.nm.size ≤ 140737488355327) :
    Calls Try.prog 25 #[.slice (some ad) l.length c, .func (.func 23) #[.string f] #[]] w fun e w' => e = .returned (.int .i64 (idxR l.length (l.findIdx (isW f)))) ∧ Below w.heap.size w w' := by
  go_enter Try.func25, Try.ntmps25
  go_wp2_with fail
  have HX := Lib.hid hx
  clear hx
  go_loopw [8] (fun i wr => ∃ k : Nat, i = .int .i64 k ∧ k ≤ l.length ∧ Hid (∀ j, j < k → isW f l[j]! = false) ∧ Hid (Below w.heap.size w wr)) (fun i _ => l.length - (intOf i).toNat)
  case atStart => exact ⟨0, rfl, by omega, Lib.hid (fun j hj => by omega), Lib.hid (Below.refl _ _)⟩
  case round =>
    obtain ⟨k, rfl, hk, HN, HB⟩ := hrel
    by_cases hlt : k < l.length
    · obtain ⟨c0, c1, c2, c3⟩ := CellsW.load (CellsW.below HX.out HB.out) hlt
      have hm := hs l[k]! (by rw [getElem!_pos l k hlt]; exact List.getElem_mem hlt)
      obtain ⟨x, hxk⟩ : ∃ x, l[k]! = x := ⟨_, rfl⟩
      rw [hxk] at c0 c1 c2 c3 hm
      have HK := Lib.hid hxk
      clear hxk
      go_wp2_with fail
      refine (Is_any f x _ _ rfl hm).mono ?_
      rintro e w2 ⟨rfl, hb⟩
      have HB2 := Lib.hid (below_two HB.out hb)
      clear hb c0 c1 c2 c3
      cases hi : isW f x with
      | true =>
        have hf : l.findIdx (isW f) = k := by
          have hlt2 : k < l.length := hlt
          rw [List.findIdx_eq hlt2]
          have e1 := HK.out
          rw [getElem!_pos l k hlt] at e1
          refine ⟨by rw [e1]; exact hi, fun j hj => ?_⟩
          have e2 := HN.out j hj
          rw [getElem!_pos l j (by omega)] at e2
          exact e2
        have HF := Lib.hid hf
        clear hf hi
        go_wp2
        go_ret
        refine ⟨?_, HB2.out⟩
        rw [HF.out, idxR, if_pos hlt]
        rfl
      | false =>
        have HI := Lib.hid hi
        clear hi
        go_wp2
        go_roundw
        case rel => exact ⟨k + 1, by go_num, by omega, Lib.hid (fun j hj => by
          rcases Nat.lt_or_ge j k with h1 | h1
          · exact HN.out j h1
          · obtain rfl : j = k := by omega
            rw [HK.out]; exact HI.out), HB2⟩
        case measure => simp [intOf] <;> omega
    · obtain rfl : k = l.length := by omega
      go_wp2
      go_ret
      refine ⟨?_, HB.out⟩
      have hf : l.findIdx (isW f) = l.length := by
        apply List.findIdx_eq_length.2
        intro x hx
        obtain ⟨j, hj, rfl⟩ := List.getElem_of_mem hx
        have := HN.out j hj
        rw [getElem!_pos l j hj] at this
        exact this
      rw [hf, idxR, if_neg (by omega)]
      rfl
end Go.Proofs.Ytheknfppofmneaa
