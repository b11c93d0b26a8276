
/- Plain words on bytes and cells: no program in sight. -/
import Derived.WalkKit
import Derived.RowKit
import Derived.Test.YtiliddklaklekaaDoorBase
namespace Go.Proofs.YtiliddklaklekaaDoor
open Go.RowKit

/-- Bytes as a number, the least one first. -/
def le : List Int → Int
  | [] => 0
  | b :: r => b + 256 * le r

def isB (l : List Int) : Prop := ∀ x ∈ l, 0 ≤ x ∧ x < 256

theorem isB_wf {l : List Int} (h : ∀ y ∈ l, (Lit.int .u8 y).wf = true) : isB l := fun y hy => wf_u8 (h y hy)
theorem isB_getD {l : List Int} (h : isB l) (j : Nat) : 0 ≤ l.getD j 0 ∧ l.getD j 0 < 256 := by
  rw [List.getD_eq_getElem?_getD]
  cases e : l[j]? with
  | none => simp
  | some x => exact h x (List.mem_of_getElem? e)

theorem isB_take {l : List Int} (h : isB l) (n : Nat) : isB (l.take n) := fun x hx => h x (List.mem_of_mem_take hx)
theorem isB_drop {l : List Int} (h : isB l) (n : Nat) : isB (l.drop n) := fun x hx => h x (List.mem_of_mem_drop hx)
theorem isB_append {l r : List Int} (h : isB l) (h' : isB r) : isB (l ++ r) := fun x hx => (List.mem_append.1 hx).elim (h x) (h' x)

theorem le_bound : ∀ (l : List Int), isB l → 0 ≤ le l ∧ le l < 256 ^ l.length
  | [], _ => by simp [le]
  | b :: r, h => by
    have ih := le_bound r (fun x hx => h x (List.mem_cons_of_mem _ hx))
    have hb := h b (List.mem_cons_self ..)
    simp only [le, List.length_cons, Int.pow_succ]
    omega

theorem le_append : ∀ (l r : List Int), le (l ++ r) = le l + 256 ^ l.length * le r
  | [], r => by simp [le]
  | b :: l, r => by
    rw [List.cons_append, le, le_append l r, le, List.length_cons, Int.pow_succ, Int.mul_add, Int.mul_comm (256 ^ l.length) 256, Int.mul_assoc]
    omega

theorem take_snoc {l : List Int} {k : Nat} (h : k < l.length) : l.take (k + 1) = l.take k ++ [l.getD k 0] := by
  rw [List.take_succ_eq_append_getElem h]
  simp [List.getD_eq_getElem?_getD, List.getElem?_eq_getElem h]

theorem le_snoc {l : List Int} {k : Nat} (h : k < l.length) : le (l.take (k + 1)) = le (l.take k) + l.getD k 0 * 256 ^ k := by
  rw [take_snoc h, le_append]
  simp only [le, List.length_take, Int.mul_zero, Int.add_zero]
  rw [Nat.min_eq_left (by omega), Int.mul_comm]

theorem drop_cons {l : List Int} {k : Nat} (h : k < l.length) : l.drop k = l.getD k 0 :: l.drop (k + 1) := by
  rw [List.drop_eq_getElem_cons h]
  simp [List.getD_eq_getElem?_getD, List.getElem?_eq_getElem h]

theorem pow256_2 (k : Nat) : (256 : Int) ^ k = 2 ^ (8 * k) := by
  rw [Int.pow_mul]; rfl

/-- A cell among bytes. -/
def cellAt (l : List Int) (i : Nat) : Int := le ((l.drop i).take 8)

theorem cellAt_bound {l : List Int} (h : isB l) (i : Nat) : 0 ≤ cellAt l i ∧ cellAt l i < 18446744073709551616 := by
  have hb := le_bound _ (isB_take (isB_drop h i) 8)
  refine ⟨hb.1, ?_⟩
  have hl : ((l.drop i).take 8).length ≤ 8 := by simp; omega
  have hp : ((256 ^ ((l.drop i).take 8).length : Nat) : Int) ≤ ((18446744073709551616 : Nat) : Int) := Int.ofNat_le.2 (Nat.pow_le_pow_right (n := 256) (i := ((l.drop i).take 8).length) (j := 8) (by decide) hl)
  rw [Int.natCast_pow] at hp
  unfold cellAt
  exact Int.lt_of_lt_of_le hb.2 hp

/-- The bytes of a cell. -/
def bytesOf (v : Int) : Nat → List Int
  | 0 => []
  | n + 1 => v % 256 :: bytesOf (v / 256) n

theorem bytesOf_length : ∀ (n : Nat) (v : Int), (bytesOf v n).length = n
  | 0, _ => rfl
  | n + 1, v => by simp [bytesOf, bytesOf_length n]
theorem bytesOf_isB : ∀ (n : Nat) (v : Int), isB (bytesOf v n)
  | 0, _ => by simp [isB, bytesOf]
  | n + 1, v => by
    intro x hx
    rcases List.mem_cons.1 hx with rfl | hx
    · omega
    · exact bytesOf_isB n _ x hx
theorem bytesOf_getD : ∀ (n : Nat) (v : Int) (k : Nat), k < n → (bytesOf v n).getD k 0 = v / 256 ^ k % 256
  | 0, _, _, h => absurd h (by omega)
  | n + 1, v, 0, _ => by simp [bytesOf]
  | n + 1, v, k + 1, h => by
    have := bytesOf_getD n (v / 256) k (by omega)
    rw [bytesOf, List.getD_cons_succ, this, Int.pow_succ, Int.mul_comm, Int.ediv_ediv_of_nonneg (by decide)]
theorem le_bytesOf : ∀ (n : Nat) (v : Int), le (bytesOf v n) = v % 256 ^ n
  | 0, v => by simp [bytesOf, le]
  | n + 1, v => by
    have hp : (0 : Int) < 256 ^ n := Int.pow_pos (by decide)
    rw [bytesOf, le, le_bytesOf n, Int.pow_succ]
    generalize (256 : Int) ^ n = P at hp ⊢
    have d := Int.emod_add_mul_ediv (v / 256) P
    have s0 := Int.emod_nonneg (v / 256) (show P ≠ 0 by omega)
    have s1 := Int.emod_lt_of_pos (v / 256) hp
    have e : v = (v % 256 + 256 * (v / 256 % P)) + (P * 256) * (v / 256 / P) := by
      rw [Int.mul_assoc, Int.mul_left_comm]
      omega
    have g : v % (P * 256) = ((v % 256 + 256 * (v / 256 % P)) + (P * 256) * (v / 256 / P)) % (P * 256) := congrArg (· % (P * 256)) e
    rw [g, Int.add_mul_emod_self_left (v % 256 + 256 * (v / 256 % P)) (P * 256) (v / 256 / P), Int.emod_eq_of_lt (a := v % 256 + 256 * (v / 256 % P)) (b := P * 256) (by omega) (by omega)]

theorem bytesOf_le : ∀ (l : List Int) (n : Nat), isB l → l.length = n → bytesOf (le l) n = l
  | [], 0, _, _ => rfl
  | [], n + 1, _, h => absurd h (by simp)
  | b :: r, 0, _, h => absurd h (by simp)
  | b :: r, n + 1, h, hl => by
    have hb := h b (List.mem_cons_self ..)
    have ih := bytesOf_le r n (fun x hx => h x (List.mem_cons_of_mem _ hx)) (by simpa using hl)
    rw [bytesOf, le, show (b + 256 * le r) % 256 = b by omega, show (b + 256 * le r) / 256 = le r by omega, ih]


theorem bytesOf_snoc : ∀ (n : Nat) (v : Int), bytesOf v (n + 1) = bytesOf v n ++ [v / 256 ^ n % 256]
  | 0, v => by simp [bytesOf]
  | n + 1, v => by
    have := bytesOf_snoc n (v / 256)
    rw [bytesOf, this, bytesOf, Int.pow_succ, Int.mul_comm, ← Int.ediv_ediv_of_nonneg (by decide)]
    rfl
theorem u64_shift (v : Int) (k : Nat) (hk : k < 8) : v % 18446744073709551616 / 256 ^ k % 256 = v / 256 ^ k % 256 := by
  rcases k with _ | _ | _ | _ | _ | _ | _ | _ | k
  all_goals first | omega | (simp only [Nat.reduceAdd, Int.reducePow]; omega)
end Go.Proofs.YtiliddklaklekaaDoor
