
/- Runs, in plain Lean. -/
import Derived.Test.YticebanhccgglaaDoorPlain16b
namespace Go.Proofs.YticebanhccgglaaDoor
open Go.RowKit

/-- How many of the first ones are x. -/
def leadEq (x : Int) : List Int → Nat
  | [] => 0
  | y :: r => if y = x then leadEq x r + 1 else 0
theorem leadEq_le (x : Int) : ∀ l, leadEq x l ≤ l.length
  | [] => Nat.le_refl _
  | y :: r => by
    have := leadEq_le x r
    unfold leadEq
    split
    · simpa using this
    · exact Nat.zero_le _
theorem leadEq_all (x : Int) : ∀ (l : List Int) (j : Nat), j < leadEq x l → l.getD j 0 = x
  | [], j, h => by simp [leadEq] at h
  | y :: r, 0, h => by
    unfold leadEq at h
    split at h
    · rename_i e
      simpa using e
    · omega
  | y :: r, j + 1, h => by
    unfold leadEq at h
    split at h
    · simpa using leadEq_all x r j (by omega)
    · omega
theorem leadEq_stop (x : Int) : ∀ (l : List Int), leadEq x l < l.length → l.getD (leadEq x l) 0 ≠ x
  | [], h => by simp [leadEq] at h
  | y :: r, h => by
    unfold leadEq at h ⊢
    split
    · rename_i e
      rw [if_pos e] at h
      simpa using leadEq_stop x r (by simpa using h)
    · rename_i e
      simpa using e
/-- What holds of the first k, and fails of the next, is it. -/
theorem leadEq_is {x : Int} {l : List Int} {k : Nat} (h1 : k ≤ l.length) (h2 : ∀ j, j < k → l.getD j 0 = x) (h3 : k < l.length → l.getD k 0 ≠ x) : leadEq x l = k := by
  have h4 := leadEq_le x l
  rcases Nat.lt_trichotomy (leadEq x l) k with h | h | h
  · exact absurd (h2 _ h) (leadEq_stop x l (by omega))
  · exact h
  · exact absurd (leadEq_all x l k h) (h3 (by omega))

/-- Its runs: how many, and of what. -/
def runsR : List Int → List (Nat × Int)
  | [] => []
  | x :: r => (leadEq x r + 1, x) :: runsR (r.drop (leadEq x r))
  termination_by l => l.length
  decreasing_by simp; omega
def encR (p : Nat × Int) : List Int := grp (zz (p.1 : Int)) ++ [p.2]
def putR (l : List Int) : List Int := (runsR l).flatMap encR
theorem putR_nil : putR [] = [] := by simp [putR, runsR]
theorem runsR_cons (x : Int) (r : List Int) : runsR (x :: r) = (leadEq x r + 1, x) :: runsR (r.drop (leadEq x r)) := by rw [runsR]
theorem putR_cons (x : Int) (r : List Int) : putR (x :: r) = encR (leadEq x r + 1, x) ++ putR (r.drop (leadEq x r)) := by
  rw [putR, runsR_cons]
  rfl
/-- Of a list from a place on. -/
theorem putR_at {l : List Int} {i n : Nat} (hi : i < l.length) (hn : leadEq (l.getD i 0) (l.drop i) = n) : 1 ≤ n ∧ i + n ≤ l.length ∧ putR (l.drop i) = encR (n, l.getD i 0) ++ putR (l.drop (i + n)) := by
  have e : l.drop i = l.getD i 0 :: l.drop (i + 1) := by
    rw [List.drop_eq_getElem_cons hi]
    simp [List.getD_eq_getElem?_getD, hi]
  have h1 := leadEq_le (l.getD i 0) (l.drop i)
  rw [hn] at h1
  have h2 : n = leadEq (l.getD i 0) (l.drop (i + 1)) + 1 := by
    rw [← hn, e]
    simp [leadEq]
  refine ⟨by omega, by simp at h1; omega, ?_⟩
  rw [e, putR_cons, ← h2, List.drop_drop, show i + 1 + leadEq (l.getD i 0) (l.drop (i + 1)) = i + n by omega]
theorem readS_le (l : List Int) (e lo hi : Int) : (readS l e lo hi).2.1.length ≤ l.length := by
  unfold readS
  split
  · exact Nat.le_refl _
  · split
    · exact Nat.le_refl _
    · split <;> simp
/-- What is read as runs of so many bytes; or what is wrong. -/
def takeR (m : Int) (out l : List Int) : List Int × Int :=
  if (out.length : Int) < m then
    if (readS l 0 1 (m - out.length)).2.2 ≠ 0 then ([], (readS l 0 1 (m - out.length)).2.2)
    else match h : (readS l 0 1 (m - out.length)).2.1 with
      | [] => ([], 3)
      | c :: t => if out.getLast? = some c then ([], 2) else takeR m (out ++ List.replicate (readS l 0 1 (m - out.length)).1.toNat c) t
  else if l = [] then (out, 0) else ([], 2)
  termination_by l.length
  decreasing_by
    have := readS_le l 0 1 (m - out.length)
    rw [h] at this
    simp at this
    omega
def takeT (m : Int) (l : List Int) : List Int × Int := if m < 0 then ([], 1) else takeR m [] l
theorem takeR_done {m : Int} {out l : List Int} (h : ¬ (out.length : Int) < m) : takeR m out l = if l = [] then (out, 0) else ([], 2) := by rw [takeR, if_neg h]
theorem takeR_bad {m : Int} {out l : List Int} {n : Int} {l2 : List Int} {e : Int} (h : (out.length : Int) < m) (hr : readS l 0 1 (m - out.length) = (n, l2, e)) (he : e ≠ 0) : takeR m out l = ([], e) := by
  rw [takeR, if_pos h, hr, if_pos he]
theorem takeR_short {m : Int} {out l : List Int} {n : Int} (h : (out.length : Int) < m) (hr : readS l 0 1 (m - out.length) = (n, [], 0)) : takeR m out l = ([], 3) := by
  rw [takeR, if_pos h, hr, if_neg (fun e => e rfl)]
theorem takeR_next {m : Int} {out l : List Int} {n : Int} {c : Int} {t : List Int} (h : (out.length : Int) < m) (hr : readS l 0 1 (m - out.length) = (n, c :: t, 0)) :
    takeR m out l = if out.getLast? = some c then ([], 2) else takeR m (out ++ List.replicate n.toNat c) t := by
  rw [takeR, if_pos h, hr, if_neg (fun e => e rfl)]
theorem readS_bnd {l : List Int} {lo hi n : Int} {l2 : List Int} (h : readS l 0 lo hi = (n, l2, 0)) : lo ≤ n ∧ n ≤ hi := by
  unfold readS at h
  rw [if_neg (by decide)] at h
  split at h
  · rename_i h2
    simp only [Prod.mk.injEq] at h
    exact absurd h.2.2 h2
  · split at h
    · simp at h
    · simp only [Prod.mk.injEq] at h
      rw [← h.1]
      omega
end Go.Proofs.YticebanhccgglaaDoor
