
/- What was read as a number is its own form. -/
import Derived.Test.YticebanhccgglaaDoorPlain17
import Derived.Test.YticebanhccgglaaDoorPlain16c
namespace Go.Proofs.YticebanhccgglaaDoor
open Go.RowKit

theorem lead_take (l : List Int) : ∀ k, lead l < k → lead (l.take k) = lead l := by
  induction l with
  | nil => intro k _; simp
  | cons c r ih =>
    intro k hk
    cases k with
    | zero => omega
    | succ k =>
      by_cases hc : c < 128
      · rw [List.take_succ_cons, lead_small c _ hc, lead_small c _ hc]
      · have e1 : lead (c :: r) = 1 + lead r := by simpa using lead_app [c] r (fun x hx => by simp at hx; omega)
        have e2 : lead (c :: r.take k) = 1 + lead (r.take k) := by simpa using lead_app [c] (r.take k) (fun x hx => by simp at hx; omega)
        rw [List.take_succ_cons, e1, e2, ih k (by omega)]
theorem ends_lead {l : List Int} (h : (endsL l).2 = 0) : endsL l = (lead l + 1, 0) ∧ lead l < l.length ∧ ¬ (l.getD 0 0 = 128 ∨ 10 ≤ lead l) ∧ ¬ (lead l = 9 ∧ 129 < l.getD 0 0) := by
  have hle := lead_le l
  unfold endsL at h ⊢
  split
  · rename_i h0
    rw [if_pos h0] at h
    exact absurd h (by decide)
  · rename_i h0
    rw [if_neg h0] at h
    split
    · rename_i h1
      rw [if_pos h1] at h
      exact absurd h (by decide)
    · rename_i h1
      rw [if_neg h1] at h
      split
      · rename_i h2
        rw [if_pos h2] at h
        exact absurd h (by decide)
      · rename_i h2
        rw [if_neg h2] at h
        split
        · rename_i h3
          rw [if_pos h3] at h
          exact absurd h (by decide)
        · rename_i h3
          exact ⟨rfl, by omega, h1, h3⟩
theorem ends_take {l : List Int} (h : (endsL l).2 = 0) : endsL (l.take (endsL l).1) = ((l.take (endsL l).1).length, 0) ∧ 0 < (l.take (endsL l).1).length := by
  obtain ⟨e, h1, h2, h3⟩ := ends_lead h
  rw [e]
  have hl := lead_take l (lead l + 1) (by omega)
  have hlen : (l.take (lead l + 1)).length = lead l + 1 := by simp; omega
  have hg : (l.take (lead l + 1)).getD 0 0 = l.getD 0 0 := by
    simp [List.getD_eq_getElem?_getD]
  refine ⟨?_, by rw [hlen]; omega⟩
  unfold endsL
  rw [hl, hlen, hg, if_neg (by omega), if_neg h2, if_neg (by omega), if_neg h3]
theorem read_form {l l2 : List Int} {n lo hi : Int} (hb : ∀ x ∈ l, 0 ≤ x ∧ x < 256) (h : readS l 0 lo hi = (n, l2, 0)) : l = grp (zz n) ++ l2 := by
  unfold readS at h
  rw [if_neg (by decide)] at h
  by_cases he : (endsL l).2 = 0
  · rw [if_neg (by omega)] at h
    have ht := ends_take he
    split at h
    · injection h with h1 h2
      injection h2 with h2 h3
      exact absurd h3 (by decide)
    · injection h with h1 h2
      injection h2 with h2 h3
      rw [← h1, ← h2, only_form (fun x hx => hb x (List.mem_of_mem_take hx)) ht.1 ht.2, List.take_append_drop]
  · rw [if_pos he] at h
    injection h with h1 h2
    injection h2 with h2 h3
    exact absurd h3 he
theorem lead_split (x : Int) : ∀ r : List Int, r = List.replicate (leadEq x r) x ++ r.drop (leadEq x r)
  | [] => by simp [leadEq]
  | y :: r => by
    unfold leadEq
    split
    · rename_i e
      subst e
      have := lead_split y r
      rw [List.replicate_succ, List.drop_succ_cons, List.cons_append, ← this]
    · simp
theorem lead_head {x : Int} {r : List Int} : (r.drop (leadEq x r)).head? ≠ some x := by
  intro h
  rw [List.head?_drop] at h
  have h1 : leadEq x r < r.length := by
    rcases Nat.lt_or_ge (leadEq x r) r.length with h2 | h2
    · exact h2
    · rw [List.getElem?_eq_none h2] at h
      cases h
  have := leadEq_stop x r h1
  rw [List.getD_eq_getElem?_getD, h] at this
  exact this rfl
/-- What was put is taken. -/
theorem take_put (m : Int) (s : List Int) : ∀ (k : Nat) (l out : List Int), l.length ≤ k → (∀ x, l.head? = some x → out.getLast? ≠ some x) → ((out.length + l.length : Nat) : Int) = m → m ≤ 1000000 →
    takeR m out (putR l ++ s) = if s = [] then (out ++ l, 0) else ([], 2)
  | k, [], out, _, _, hm, _ => by
    rw [takeR_done (by simp at hm; omega), putR_nil, List.nil_append, List.append_nil]
  | 0, x :: r, out, h, _, _, _ => by simp at h
  | k + 1, x :: r, out, h, hd, hm, hb => by
    have hle := leadEq_le x r
    have hlt : (out.length : Int) < m := by simp at hm; omega
    have hr : readS (putR (x :: r) ++ s) 0 1 (m - out.length) = (((leadEq x r + 1 : Nat) : Int), x :: (putR (r.drop (leadEq x r)) ++ s), 0) := by
      rw [putR_cons]
      unfold encR
      rw [List.append_assoc, List.append_assoc]
      exact read_grp (by omega) (by simp at hm; omega) (by omega) (by simp at hm; omega) _
    rw [takeR_next hlt hr, if_neg (hd x rfl)]
    have ih := take_put m s k (r.drop (leadEq x r)) (out ++ List.replicate (leadEq x r + 1) x) (by simp at h ⊢; omega) (fun z hz => by
      rw [List.getLast?_append, List.getLast?_replicate]
      simp
      intro e
      subst e
      exact lead_head hz) (by simp at hm ⊢; omega) hb
    rw [Int.toNat_natCast, ih]
    have e : out ++ List.replicate (leadEq x r + 1) x ++ r.drop (leadEq x r) = out ++ x :: r := by
      rw [List.append_assoc, List.replicate_succ, List.cons_append, ← lead_split]
    rw [e]
end Go.Proofs.YticebanhccgglaaDoor
