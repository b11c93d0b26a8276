
/- Bytes that are read as runs are the only form of what they tell. -/
import Derived.Test.YticebanhccgglaaDoorPlain17b
namespace Go.Proofs.YticebanhccgglaaDoor
open Go.RowKit

theorem leadEq_rep (c : Int) (y : List Int) (h : y.head? ≠ some c) : ∀ n, leadEq c (List.replicate n c ++ y) = n
  | 0 => by
    cases y with
    | nil => rfl
    | cons z r =>
      have : z ≠ c := fun e => h (by rw [e]; rfl)
      simp [leadEq, this]
  | n + 1 => by
    have := leadEq_rep c y h n
    rw [List.replicate_succ, List.cons_append]
    simp [leadEq, this]
theorem putR_rep (c : Int) (y : List Int) (h : y.head? ≠ some c) (n : Nat) : putR (List.replicate (n + 1) c ++ y) = encR (n + 1, c) ++ putR y := by
  rw [List.replicate_succ, List.cons_append, putR_cons, leadEq_rep c y h]
  congr 2
  rw [List.drop_append]
  simp
theorem take_form (m : Int) : ∀ (k : Nat) (l out x : List Int), l.length ≤ k → (∀ z ∈ l, 0 ≤ z ∧ z < 256) → (out.length : Int) ≤ m → takeR m out l = (x, 0) →
    ∃ y, x = out ++ y ∧ l = putR y ∧ ((out.length + y.length : Nat) : Int) = m ∧ ∀ z, y.head? = some z → out.getLast? ≠ some z
  | k, l, out, x, hk, hb, hm, h => by
    by_cases hlt : (out.length : Int) < m
    · obtain ⟨n, l2, e, hr⟩ : ∃ n l2 e, readS l 0 1 (m - out.length) = (n, l2, e) := ⟨_, _, _, rfl⟩
      by_cases he : e = 0
      · subst he
        cases l2 with
        | nil =>
          rw [takeR_short hlt hr] at h
          simp at h
        | cons c t =>
          rw [takeR_next hlt hr] at h
          split at h
          · simp at h
          · rename_i hne
            have hbn := readS_bnd hr
            have hf := read_form hb hr
            obtain ⟨j, rfl⟩ : ∃ j : Nat, n = ((j + 1 : Nat) : Int) := ⟨n.toNat - 1, by omega⟩
            have hls := read_less hr
            cases k with
            | zero => simp at hk; subst hk; simp at hls
            | succ k =>
              rw [Int.toNat_natCast] at h
              obtain ⟨y, h1, h2, h3, h4⟩ := take_form m k t (out ++ List.replicate (j + 1) c) x (by simp at hls; omega) (fun z hz => hb z (by rw [hf]; simp [hz])) (by simp; omega) h
              have hy : y.head? ≠ some c := fun e => h4 c e (by rw [List.getLast?_append, List.getLast?_replicate]; simp)
              refine ⟨List.replicate (j + 1) c ++ y, by rw [h1, List.append_assoc], ?_, by simp at h3 ⊢; omega, fun z hz => ?_⟩
              · rw [hf, putR_rep c y hy, h2]
                unfold encR
                simp
              · rw [List.replicate_succ, List.cons_append, List.head?_cons] at hz
                injection hz with hz
                subst hz
                exact hne
      · rw [takeR_bad hlt hr he] at h
        simp at h
        exact absurd h.2 he
    · rw [takeR_done hlt] at h
      split at h
      · rename_i hl
        simp at h
        exact ⟨[], by simp [h], by rw [hl, putR_nil], by simp; omega, fun z hz => by simp at hz⟩
      · simp at h
theorem encR_le (n : Nat) (x : Int) (h1 : 1 ≤ n) (h2 : n ≤ 1000000) : 2 ≤ (encR (n, x)).length ∧ (encR (n, x)).length ≤ 2 * n := by
  have hz : zz (n : Int) = 2 * n := by unfold zz; rw [if_pos (by omega)]; omega
  have hg : (grp (zz (n : Int))).length = (grpD (2 * n / 128)).length + 1 := by rw [hz]; simp [grp]
  have h3 := (grp_len (zz_lt (n := (n : Int)) (by omega) (by omega))).2
  have e : (encR (n, x)).length = (grp (zz (n : Int))).length + 1 := by simp [encR]
  rw [e]
  by_cases h : n < 64
  · have h0 : grpD (2 * n / 128) = [] := by rw [show 2 * n / 128 = 0 by omega, grpD_0]
    rw [hg, h0]
    simp
    omega
  · omega
theorem putR_le : ∀ (k : Nat) (l : List Int), l.length ≤ k → k ≤ 1000000 → (putR l).length ≤ 2 * l.length ∧ (0 < l.length → 0 < (putR l).length)
  | _, [], _, _ => by simp [putR_nil]
  | 0, x :: r, h, _ => by simp at h
  | k + 1, x :: r, h, hk => by
    have hle := leadEq_le x r
    have ih := putR_le k (r.drop (leadEq x r)) (by simp at h ⊢; omega) (by omega)
    have he := encR_le (leadEq x r + 1) x (by omega) (by simp at h; omega)
    rw [putR_cons, List.length_append]
    have h1 := ih.1
    rw [List.length_drop] at h1
    simp only [List.length_cons] at h ⊢
    omega
theorem runsR_ne {l : List Int} (h : l ≠ []) : ∃ x r, l = x :: r := by
  cases l with
  | nil => exact absurd rfl h
  | cons x r => exact ⟨x, r, rfl⟩
theorem leadEq_app {x : Int} {r b : List Int} (h : leadEq x r < r.length) : leadEq x (r ++ b) = leadEq x r := by
  refine leadEq_is (by simp; omega) (fun j hj => ?_) (fun _ => ?_)
  · have := leadEq_all x r j hj
    rw [List.getD_eq_getElem?_getD] at this ⊢
    rw [List.getElem?_append_left (by omega)]
    exact this
  · have := leadEq_stop x r h
    rw [List.getD_eq_getElem?_getD] at this ⊢
    rw [List.getElem?_append_left (by omega)]
    exact this
/-- Apart, the runs of both are the runs of each. -/
theorem putR_apart : ∀ (k : Nat) (a b : List Int), a.length ≤ k → (∀ z, a.getLast? = some z → b.head? ≠ some z) → putR (a ++ b) = putR a ++ putR b
  | _, [], b, _, _ => by rw [List.nil_append, putR_nil, List.nil_append]
  | 0, x :: r, b, h, _ => by simp at h
  | k + 1, x :: r, b, h, hd => by
    have hle := leadEq_le x r
    by_cases hall : leadEq x r = r.length
    · have hr := lead_split x r
      rw [hall, List.drop_length, List.append_nil] at hr
      have hlast : (x :: r).getLast? = some x := by
        rw [hr, ← List.replicate_succ, List.getLast?_replicate]
        simp
      have e1 : x :: r = List.replicate (r.length + 1) x ++ [] := by rw [List.replicate_succ, List.append_nil, ← hr]
      have e2 : x :: r ++ b = List.replicate (r.length + 1) x ++ b := by rw [List.replicate_succ, ← hr]
      rw [e2, putR_rep x b (hd x hlast), e1, putR_rep x [] (by simp), putR_nil, List.append_nil]
    · have hlt : leadEq x r < r.length := by omega
      rw [List.cons_append, putR_cons, leadEq_app hlt, List.drop_append_of_le_length hle, putR_cons]
      rw [putR_apart k (r.drop (leadEq x r)) b (by simp at h ⊢; omega) (fun z hz => hd z (by
        rw [← hz, List.getLast?_drop, if_neg (by omega)]
        cases r with
        | nil => simp at hlt
        | cons y s => simp [List.getLast?_cons_cons])), List.append_assoc]
/-- Runs that fit are taken, whatever stands behind. -/
theorem take_steps (m : Int) (s : List Int) : ∀ (k : Nat) (l out : List Int), l.length ≤ k → (∀ x, l.head? = some x → out.getLast? ≠ some x) → ((out.length + l.length : Nat) : Int) ≤ m → m ≤ 1000000 →
    takeR m out (putR l ++ s) = takeR m (out ++ l) s
  | k, [], out, _, _, _, _ => by rw [putR_nil, List.nil_append, List.append_nil]
  | 0, x :: r, out, h, _, _, _ => by simp at h
  | k + 1, x :: r, out, h, hd, hm, hb => by
    have hle := leadEq_le x r
    have hlt : (out.length : Int) < m := by simp at hm; omega
    have hr : readS (putR (x :: r) ++ s) 0 1 (m - out.length) = (((leadEq x r + 1 : Nat) : Int), x :: (putR (r.drop (leadEq x r)) ++ s), 0) := by
      rw [putR_cons]
      unfold encR
      rw [List.append_assoc, List.append_assoc]
      exact read_grp (by omega) (by simp at hm; omega) (by omega) (by simp at hm; omega) _
    rw [takeR_next hlt hr, if_neg (hd x rfl)]
    have ih := take_steps m s k (r.drop (leadEq x r)) (out ++ List.replicate (leadEq x r + 1) x) (by simp at h ⊢; omega) (fun z hz => by
      rw [List.getLast?_append, List.getLast?_replicate]
      simp
      intro e
      subst e
      exact lead_head hz) (by simp at hm ⊢; omega) hb
    rw [Int.toNat_natCast, ih]
    have e : out ++ List.replicate (leadEq x r + 1) x ++ r.drop (leadEq x r) = out ++ x :: r := by
      rw [List.append_assoc, List.replicate_succ, List.cons_append, ← lead_split]
    rw [e]
/-- Not apart, they are not. -/
theorem putR_joined {a b : List Int} {z : Int} (h1 : a.getLast? = some z) (h2 : b.head? = some z) (hl : a.length + b.length ≤ 1000000) : putR (a ++ b) ≠ putR a ++ putR b := by
  intro e
  cases b with
  | nil => simp at h2
  | cons y r =>
    rw [List.head?_cons] at h2
    injection h2 with h2
    subst h2
    have t1 := take_put ((a.length + (y :: r).length : Nat) : Int) [] (a ++ y :: r).length (a ++ y :: r) [] (Nat.le_refl _) (fun x _ => by simp) (by simp) (by omega)
    have t2 := take_steps ((a.length + (y :: r).length : Nat) : Int) (putR (y :: r)) a.length a [] (Nat.le_refl _) (fun x _ => by simp) (by simp; omega) (by omega)
    have hle := leadEq_le y r
    have hr : readS (putR (y :: r)) 0 1 (((a.length + (y :: r).length : Nat) : Int) - a.length) = (((leadEq y r + 1 : Nat) : Int), y :: putR (r.drop (leadEq y r)), 0) := by
      rw [putR_cons]
      unfold encR
      rw [List.append_assoc]
      exact read_grp (by omega) (by simp at hl; omega) (by omega) (by simp; omega) _
    have t3 := takeR_next (m := ((a.length + (y :: r).length : Nat) : Int)) (out := a) (by simp; omega) hr
    rw [if_pos h1] at t3
    rw [List.nil_append, t3, ← e] at t2
    rw [List.append_nil, if_pos rfl, t2] at t1
    simp at t1
theorem readS_nil (hi : Int) : readS [] 0 1 hi = (0, [], 3) := by
  unfold readS
  rw [if_neg (by decide)]
  rw [show endsL [] = (0, 3) from rfl, if_pos (by decide)]
/-- Read as more than they are, they are too short. -/
theorem take_more (m : Int) (b : List Int) (h : (b.length : Int) < m) (hm : m ≤ 1000000) : takeR m [] (putR b) = ([], 3) := by
  have t := take_steps m [] b.length b [] (Nat.le_refl _) (fun x _ => by simp) (by simp; omega) hm
  rw [List.append_nil, List.nil_append] at t
  rw [t]
  exact takeR_bad h (readS_nil _) (by decide)
theorem read_over {n hi : Int} (h0 : -9223372036854775808 ≤ n) (h1 : n ≤ 9223372036854775807) (h : hi < n) (r : List Int) : readS (grp (zz n) ++ r) 0 1 hi = (0, r, 2) := by
  have hz := zz_lt h0 h1
  unfold readS
  rw [if_neg (by decide), ends_grp hz, if_neg (by simp)]
  simp only
  rw [List.take_append_of_le_length (Nat.le_refl _), List.take_length, valL_grp hz, unz_zz, if_pos (.inr h), List.drop_append_of_le_length (Nat.le_refl _), List.drop_length, List.nil_append]
/-- Read as fewer than they are, they are refused. -/
theorem take_less (m : Int) (s : List Int) : ∀ (k : Nat) (l out : List Int), l.length ≤ k → (∀ x, l.head? = some x → out.getLast? ≠ some x) → (out.length : Int) ≤ m → m < ((out.length + l.length : Nat) : Int) → out.length + l.length ≤ 1000000 →
    takeR m out (putR l ++ s) = ([], 2)
  | _, [], out, _, _, h1, h2, _ => by simp at h2; omega
  | 0, x :: r, out, h, _, _, _, _ => by simp at h
  | k + 1, x :: r, out, h, hd, h1, h2, hb => by
    have hle := leadEq_le x r
    have hne : putR (x :: r) ++ s ≠ [] := by
      rw [putR_cons]
      unfold encR
      simp
    by_cases hlt : (out.length : Int) < m
    · have hform : putR (x :: r) ++ s = grp (zz ((leadEq x r + 1 : Nat) : Int)) ++ (x :: (putR (r.drop (leadEq x r)) ++ s)) := by
        rw [putR_cons]
        unfold encR
        simp
      by_cases hn : ((leadEq x r + 1 : Nat) : Int) ≤ m - out.length
      · have hr : readS (putR (x :: r) ++ s) 0 1 (m - out.length) = (((leadEq x r + 1 : Nat) : Int), x :: (putR (r.drop (leadEq x r)) ++ s), 0) := by
          rw [hform]
          exact read_grp (by omega) (by simp at hb; omega) (by omega) hn _
        rw [takeR_next hlt hr, if_neg (hd x rfl), Int.toNat_natCast]
        exact take_less m s k (r.drop (leadEq x r)) (out ++ List.replicate (leadEq x r + 1) x) (by simp at h ⊢; omega) (fun z hz => by
          rw [List.getLast?_append, List.getLast?_replicate]
          simp
          intro e
          subst e
          exact lead_head hz) (by simp; omega) (by simp at h2 ⊢; omega) (by simp at hb ⊢; omega)
      · have hr : readS (putR (x :: r) ++ s) 0 1 (m - out.length) = (0, x :: (putR (r.drop (leadEq x r)) ++ s), 2) := by
          rw [hform]
          exact read_over (by omega) (by simp at hb; omega) (by omega) _
        exact takeR_bad hlt hr (by decide)
    · rw [takeR_done hlt, if_neg hne]
end Go.Proofs.YticebanhccgglaaDoor
