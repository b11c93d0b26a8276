
/- FlowSettles in plain words: the kernel reckons it. -/
import Derived.Test.YtfkkmlgblhnkaaaDoorRun11
namespace Go.Proofs.YtfkkmlgblhnkaaaDoor
open Go.RowKit

def moreO : Nat → List Int
  | 0 => []
  | k + 1 => 101 :: 102 :: moreO k
def sett0 (M : List Int) (k : Nat) : Ps := ⟨M, [], [], [], [], [], [], 0, 8 * (k : Int), 0, 0, 0, 0, false, false⟩
def settC (M : List Int) (m k : Nat) : Bool :=
  let x := runF (sett0 M k) (98 :: (moreO m ++ [100]))
  let y := runF (sett0 M k) (106 :: (moreO m ++ [107]))
  decide (x.2 = 0) && decide (y.2 = 0) && decide (x.1.mem.length = 400) && decide (y.1.mem.length = 400) && decide (cellR x.1.mem (8 * (k : Int) + 8) = x.1.here) && decide (cellR y.1.mem (8 * (k : Int) + 8) = y.1.here) && decide (cellR y.1.mem (y.1.here - 8) = 8 * (k : Int) + 16) && decide (8 ≤ y.1.here) && decide (y.1.here ≤ 400)
set_option maxRecDepth 1000000 in
theorem sett_all : ∀ m : Nat, m < 8 → ∀ k : Nat, k < 10 → settC (List.replicate 400 0) m k = true := by decide +kernel
/-- 400 bytes. -/
theorem sett_M : ∃ M : List Int, (∀ W : World, (Instr.makeSlice 22 (.int .i64 400) (.int .i64 400)).run Tryd.prog W = .ok (.slice (some ⟨W.heap.size, 0, none⟩) 400 400) (W.alloc (.cells (nums .u8 M).toArray 5 (0, 0)))) ∧ M.length = 400 ∧ isB M ∧ (∀ w : World, RdI (w.alloc (.cells (nums .u8 M).toArray 5 (0, 0))) .u8 (some ⟨w.heap.size, 0, none⟩) 400 M) ∧
    ∀ m : Nat, m < 8 → ∀ k : Nat, k < 10 → settC M m k = true :=
  ⟨List.replicate 400 0, make_nums (P := Tryd.prog) 22 5 .u8 1 Tryd.underlying22 infoU8 400 (by omega) (by omega), List.length_replicate, isB_zero 400, fun w => rd_make w 400 (by omega), sett_all⟩
def bB : ByteArray := ⟨#[66, 69, 71, 73, 78]⟩
def bA : ByteArray := ⟨#[65, 71, 65, 73, 78]⟩
def bIF : ByteArray := ⟨#[73, 70]⟩
def bDO : ByteArray := ⟨#[68, 79]⟩
def bTH : ByteArray := ⟨#[84, 72, 69, 78]⟩
def bLO : ByteArray := ⟨#[76, 79, 79, 80]⟩
def moreN : Nat → List ByteArray
  | 0 => []
  | k + 1 => bB :: bA :: moreN k
theorem moreN_len : ∀ k, (moreN k).length = 2 * k
  | 0 => rfl
  | k + 1 => by show (moreN k).length + 1 + 1 = _; rw [moreN_len k]; omega
theorem moreN_next : ∀ k, moreN (k + 1) = moreN k ++ [bB, bA]
  | 0 => rfl
  | k + 1 => by
    show bB :: bA :: moreN (k + 1) = bB :: bA :: moreN k ++ [bB, bA]
    rw [moreN_next k]
    rfl
theorem names_nil : namesOf [] [] := ⟨rfl, fun j h => absurd h (by simp)⟩
theorem names_cons {a : ByteArray} {b : Int} {l : List ByteArray} {o : List Int} (h : findR (foldB a) = b) (hs : a.size ≤ 100) (r : namesOf l o) : namesOf (a :: l) (b :: o) := by
  refine ⟨by simp [r.1], fun j hj => ?_⟩
  cases j with
  | zero => exact ⟨h, hs⟩
  | succ j => exact r.2 j (by simpa using hj)
theorem names_app : ∀ {l : List ByteArray} {o : List Int} {l2 : List ByteArray} {o2 : List Int}, namesOf l o → namesOf l2 o2 → namesOf (l ++ l2) (o ++ o2)
  | [], [], _, _, _, h => h
  | [], _ :: _, _, _, h, _ => absurd h.1 (by simp)
  | _ :: _, [], _, _, h, _ => absurd h.1 (by simp)
  | a :: l, b :: o, l2, o2, h, h2 => by
    have h0 := h.2 0 (by simp)
    refine names_cons h0.1 h0.2 (names_app (l := l) (o := o) ⟨by simpa using h.1, fun j hj => ?_⟩ h2)
    exact h.2 (j + 1) (by simpa using hj)
theorem names_more : ∀ k, namesOf (moreN k) (moreO k)
  | 0 => names_nil
  | k + 1 => names_cons (by decide +kernel) (by decide) (names_cons (by decide +kernel) (by decide) (names_more k))
theorem strs_app (a b : List ByteArray) : strs (a ++ b) = strs a ++ strs b := by simp [strs]
end Go.Proofs.YtfkkmlgblhnkaaaDoor
