
/- Runs that are cut off are too short; the sample's values. -/
import Derived.Test.YticebanhccgglaaDoorPlain17c
namespace Go.Proofs.YticebanhccgglaaDoor
open Go.RowKit

theorem ends_cutj {m : Nat} (hm : m < 18446744073709551616) {j : Nat} (hj : j < (grp m).length) : endsL ((grp m).take j) = (0, 3) := by
  obtain ⟨h1, h2⟩ := grp_len hm
  obtain ⟨h3, h4⟩ := grp_head hm
  have h6 : (grp m).length = (grpD (m / 128)).length + 1 := by unfold grp; simp
  have e : (grp m).take j = (grpD (m / 128)).take j := by
    unfold grp
    rw [List.take_append_of_le_length (by omega)]
  rw [e]
  have hlen : ((grpD (m / 128)).take j).length = j := by rw [List.length_take]; omega
  have hl : lead ((grpD (m / 128)).take j) = j := by
    have := lead_app ((grpD (m / 128)).take j) [] (fun x hx => grpD_ge _ x (List.mem_of_mem_take hx))
    rw [List.append_nil] at this
    rw [this, hlen]
    rfl
  unfold endsL
  by_cases h0 : j = 0
  · rw [if_pos (by rw [hlen, h0])]
  · have : ((grpD (m / 128)).take j).getD 0 0 ≠ 128 := by
      unfold grp at h3
      rw [getD_app (by omega)] at h3
      rw [List.getD_eq_getElem?_getD, List.getElem?_take_of_lt (by omega), ← List.getD_eq_getElem?_getD]
      exact h3
    rw [if_neg (by rw [hlen]; exact h0), hl, if_neg (by omega), if_pos hlen.symm]
theorem read_cutj {n : Int} (h0 : -9223372036854775808 ≤ n) (h1 : n ≤ 9223372036854775807) {j : Nat} (hj : j < (grp (zz n)).length) (lo hi : Int) : ∃ l2, readS ((grp (zz n)).take j) 0 lo hi = (0, l2, 3) := by
  refine ⟨(grp (zz n)).take j, ?_⟩
  unfold readS
  rw [if_neg (by decide), ends_cutj (zz_lt h0 h1) hj, if_pos (by decide)]
theorem take_cut (m : Int) : ∀ (k : Nat) (l out : List Int) (j : Nat), l.length ≤ k → (∀ x, l.head? = some x → out.getLast? ≠ some x) → ((out.length + l.length : Nat) : Int) = m → m ≤ 1000000 → j < (putR l).length →
    takeR m out ((putR l).take j) = ([], 3)
  | _, [], out, j, _, _, _, _, hj => by rw [putR_nil] at hj; simp at hj
  | 0, x :: r, out, j, h, _, _, _, _ => by simp at h
  | k + 1, x :: r, out, j, h, hd, hm, hb, hj => by
    have hle := leadEq_le x r
    have hlt : (out.length : Int) < m := by simp at hm; omega
    obtain ⟨n, hn⟩ : ∃ n : Nat, leadEq x r + 1 = n := ⟨_, rfl⟩
    have hn2 : n ≤ 1000000 := by simp at hm; omega
    have hn3 : (n : Int) ≤ m - out.length := by simp at hm; omega
    have hform : putR (x :: r) = grp (zz (n : Int)) ++ (x :: putR (r.drop (leadEq x r))) := by
      rw [putR_cons, hn]
      unfold encR
      simp
    rw [hform] at hj ⊢
    rw [List.length_append, List.length_cons] at hj
    rcases Nat.lt_trichotomy j (grp (zz (n : Int))).length with h1 | h1 | h1
    · rw [List.take_append_of_le_length (Nat.le_of_lt h1)]
      obtain ⟨l2, hr⟩ := read_cutj (n := (n : Int)) (by omega) (by omega) h1 1 (m - out.length)
      exact takeR_bad hlt hr (by decide)
    · rw [List.take_append_of_le_length (Nat.le_of_eq h1), List.take_of_length_le (Nat.le_of_eq h1.symm)]
      have hr := read_grp (n := (n : Int)) (lo := 1) (hi := m - out.length) (by omega) (by omega) (by omega) hn3 []
      rw [List.append_nil] at hr
      exact takeR_short hlt hr
    · obtain ⟨i, hi⟩ : ∃ i, j = (grp (zz (n : Int))).length + (i + 1) := ⟨j - (grp (zz (n : Int))).length - 1, by omega⟩
      subst hi
      rw [List.take_length_add_append, List.take_succ_cons]
      have hr := read_grp (n := (n : Int)) (lo := 1) (hi := m - out.length) (by omega) (by omega) (by omega) hn3 (x :: (putR (r.drop (leadEq x r))).take i)
      rw [takeR_next hlt hr, if_neg (hd x rfl), Int.toNat_natCast]
      exact take_cut m k (r.drop (leadEq x r)) (out ++ List.replicate n x) i (by simp at h ⊢; omega) (fun z hz => by
        rw [List.getLast?_append, List.getLast?_replicate, if_neg (by omega)]
        simp
        intro e
        subst e
        exact lead_head hz) (by simp at hm ⊢; omega) hb (by omega)
theorem put_sample : putR [0, 0, 0, 7] = [6, 0, 2, 7] := by
  simp [putR_cons, putR_nil, leadEq, encR, zz, grp, grpD_0]
theorem take_sample4 : takeT 4 [6, 0, 2, 7] = ([0, 0, 0, 7], 0) := by
  have := take_put 4 [] 4 [0, 0, 0, 7] [] (by decide) (fun x _ => by simp) (by decide) (by decide)
  rw [put_sample] at this
  unfold takeT
  rw [if_neg (by decide)]
  simpa using this
theorem take_sample3 : takeT 3 [6, 0, 2, 7] = ([], 2) := by
  have := take_less 3 [] 4 [0, 0, 0, 7] [] (by decide) (fun x _ => by simp) (by decide) (by decide) (by decide)
  rw [put_sample] at this
  unfold takeT
  rw [if_neg (by decide)]
  simpa using this
end Go.Proofs.YticebanhccgglaaDoor
