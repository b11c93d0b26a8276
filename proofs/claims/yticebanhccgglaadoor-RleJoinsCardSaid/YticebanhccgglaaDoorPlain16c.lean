
/- Plain laws on numbers as bytes. -/
import Derived.Test.YticebanhccgglaaDoorPlain16b
namespace Go.Proofs.YticebanhccgglaaDoor
open Go.RowKit

theorem zz_unz {x : Int} (h0 : 0 ≤ x) (h1 : x < 18446744073709551616) : zz (unz x) = x.toNat := by
  unfold zz unz
  by_cases h : x % 2 = 1
  · rw [if_pos h, if_neg (by omega)]
    omega
  · rw [if_neg h, if_pos (by omega)]
    omega
theorem unz_zz {n : Int} : unz (zz n : Nat) = n := by
  unfold zz unz
  by_cases h : 0 ≤ n
  · rw [if_pos h, if_neg (by omega)]
    omega
  · rw [if_neg h, if_pos (by omega)]
    omega

/-! ### What stands ahead -/
theorem lead_app (l r : List Int) (h : ∀ x ∈ l, 128 ≤ x) : lead (l ++ r) = l.length + lead r := by
  induction l with
  | nil => simp
  | cons a l ih =>
    show (if 128 ≤ a then lead (l ++ r) + 1 else 0) = _
    rw [if_pos (h a (by simp)), ih (fun x hx => h x (by simp [hx]))]
    simp
    omega
theorem lead_small (c : Int) (r : List Int) (h : c < 128) : lead (c :: r) = 0 := by
  show (if 128 ≤ c then lead r + 1 else 0) = 0
  rw [if_neg (by omega)]
theorem grpD_ge (m : Nat) : ∀ x ∈ grpD m, 128 ≤ x := fun x hx => (grpD_range m x hx).1
theorem lead_grp (m : Nat) (r : List Int) : lead (grp m ++ r) = (grpD (m / 128)).length := by
  unfold grp
  rw [List.append_assoc, lead_app _ _ (grpD_ge _)]
  rw [show [((m % 128 : Nat) : Int)] ++ r = ((m % 128 : Nat) : Int) :: r from rfl, lead_small _ _ (by omega)]
  rfl
theorem grpD_head : ∀ (k : Nat), 0 < k → ∃ t, grpD k = ((128 + k / 128 ^ ((grpD k).length - 1) : Nat) : Int) :: t ∧ 0 < k / 128 ^ ((grpD k).length - 1) := by
  intro k
  induction k using Nat.strongRecOn with
  | ind k ih =>
    intro hk
    by_cases h : k < 128
    · have e0 : k / 128 = 0 := by omega
      have e : grpD k = [((k % 128 + 128 : Nat) : Int)] := by rw [grpD_pos hk, e0, grpD_0]; rfl
      rw [e]
      refine ⟨[], ?_, ?_⟩
      · show [((k % 128 + 128 : Nat) : Int)] = [((128 + k / 1 : Nat) : Int)]
        rw [Nat.div_one, Nat.mod_eq_of_lt h, Nat.add_comm]
      · show 0 < k / 1
        omega
    · obtain ⟨t, h1, h2⟩ := ih (k / 128) (Nat.div_lt_self hk (by decide)) (by omega)
      have hlen : 0 < (grpD (k / 128)).length := by rw [h1]; simp
      have e : (grpD k).length - 1 = (grpD (k / 128)).length - 1 + 1 := by
        rw [grpD_pos hk, List.length_append, List.length_singleton]
        omega
      have e2 : k / 128 ^ ((grpD k).length - 1) = k / 128 / 128 ^ ((grpD (k / 128)).length - 1) := by
        rw [e, Nat.pow_succ, Nat.mul_comm, Nat.div_div_eq_div_mul]
      rw [e2]
      refine ⟨t ++ [((k % 128 + 128 : Nat) : Int)], ?_, h2⟩
      conv => lhs; rw [grpD_pos hk, h1]
      rfl
theorem grp_head {m : Nat} (hm : m < 18446744073709551616) : (grp m).getD 0 0 ≠ 128 ∧ ((grpD (m / 128)).length = 9 → (grp m).getD 0 0 ≤ 129) := by
  unfold grp
  rcases Nat.eq_zero_or_pos (m / 128) with h | h
  · rw [h, grpD_0]
    simp
    omega
  · obtain ⟨t, h1, h2⟩ := grpD_head _ h
    generalize hj : (grpD (m / 128)).length = j at *
    rw [h1]
    simp only [List.cons_append, List.getD_cons_zero]
    refine ⟨by omega, fun h9 => ?_⟩
    subst h9
    have : m / 128 / 128 ^ (9 - 1) ≤ 1 := by
      show m / 128 / 72057594037927936 ≤ 1
      omega
    omega
theorem getD_app {l r : List Int} (h : 0 < l.length) : (l ++ r).getD 0 0 = l.getD 0 0 := by
  cases l with
  | nil => simp at h
  | cons a l => rfl
theorem ends_grp {m : Nat} (hm : m < 18446744073709551616) (r : List Int) : endsL (grp m ++ r) = ((grp m).length, 0) := by
  obtain ⟨h1, h2⟩ := grp_len hm
  obtain ⟨h3, h4⟩ := grp_head hm
  have h5 := lead_grp m r
  have h6 : (grp m).length = (grpD (m / 128)).length + 1 := by unfold grp; simp
  unfold endsL
  rw [getD_app (by omega), h5, List.length_append, if_neg (by omega), if_neg (by omega), if_neg (by omega), if_neg (by intro h; have := h4 h.1; omega), h6]
theorem ends_cut {m : Nat} (hm : m < 18446744073709551616) : endsL ((grp m).take ((grp m).length - 1)) = (0, 3) := by
  obtain ⟨h1, h2⟩ := grp_len hm
  obtain ⟨h3, h4⟩ := grp_head hm
  have h6 : (grp m).length = (grpD (m / 128)).length + 1 := by unfold grp; simp
  have e : (grp m).take ((grp m).length - 1) = grpD (m / 128) := by
    rw [h6, Nat.add_sub_cancel]
    unfold grp
    rw [List.take_append_of_le_length (Nat.le_refl _), List.take_length]
  rw [e]
  have hl : lead (grpD (m / 128)) = (grpD (m / 128)).length := by
    have := lead_app (grpD (m / 128)) [] (grpD_ge _)
    rw [List.append_nil] at this
    rw [this]
    rfl
  unfold endsL
  by_cases h0 : (grpD (m / 128)).length = 0
  · rw [if_pos h0]
  · have : (grpD (m / 128)).getD 0 0 ≠ 128 := by
      unfold grp at h3
      rw [getD_app (by omega)] at h3
      exact h3
    rw [if_neg h0, hl, if_neg (by omega), if_pos rfl]

/-! ### What they are worth -/
def stepN (x c : Int) : Int := x * 128 + c % 128
theorem fold_mod (l : List Int) : ∀ x y : Int, x % 18446744073709551616 = y % 18446744073709551616 → 0 ≤ x → x < 18446744073709551616 → l.foldl stepV x = (l.foldl stepN y) % 18446744073709551616 := by
  induction l with
  | nil =>
    intro x y h h0 h1
    show x = y % 18446744073709551616
    omega
  | cons a l ih =>
    intro x y h h0 h1
    refine ih (stepV x a) (stepN y a) ?_ ?_ ?_
    · unfold stepV stepN
      omega
    · unfold stepV
      omega
    · unfold stepV
      omega
def worth (l : List Int) : Int := l.foldl stepN 0
theorem valL_worth (l : List Int) : valL l = worth l % 18446744073709551616 := fold_mod l 0 0 rfl (by decide) (by decide)
theorem worth_snoc (l : List Int) (c : Int) : worth (l ++ [c]) = worth l * 128 + c % 128 := by
  unfold worth
  rw [List.foldl_append]
  rfl
theorem worth_grpD : ∀ m : Nat, worth (grpD m) = m := by
  intro m
  induction m using Nat.strongRecOn with
  | ind m ih =>
    rcases Nat.eq_zero_or_pos m with h | h
    · subst h
      rw [grpD_0]
      rfl
    · rw [grpD_pos h, worth_snoc, ih (m / 128) (Nat.div_lt_self h (by decide))]
      omega
theorem valL_grp {m : Nat} (hm : m < 18446744073709551616) : valL (grp m) = m := by
  rw [valL_worth]
  unfold grp
  rw [worth_snoc, worth_grpD]
  omega
theorem read_grp {n lo hi : Int} (h0 : -9223372036854775808 ≤ n) (h1 : n ≤ 9223372036854775807) (hlo : lo ≤ n) (hhi : n ≤ hi) (r : List Int) : readS (grp (zz n) ++ r) 0 lo hi = (n, r, 0) := by
  have hz := zz_lt h0 h1
  unfold readS
  rw [if_neg (by decide), ends_grp hz, if_neg (by simp)]
  simp only
  rw [List.take_append_of_le_length (Nat.le_refl _), List.take_length, valL_grp hz, unz_zz, if_neg (by omega), List.drop_append_of_le_length (Nat.le_refl _), List.drop_length, List.nil_append]
theorem text_grp (b r : List Int) (hb : b.length ≤ 1000000) : textS (grp (zz b.length) ++ (b ++ r)) 0 b.length = (b, r, 0) := by
  have := read_grp (n := b.length) (lo := 0) (hi := b.length) (by omega) (by omega) (by omega) (by omega) (b ++ r)
  unfold textS
  rw [this]
  simp only
  rw [if_neg (by decide), if_neg (by rw [List.length_append]; omega), Int.toNat_natCast, List.take_append_of_le_length (Nat.le_refl _), List.take_length, List.drop_append_of_le_length (Nat.le_refl _), List.drop_length, List.nil_append]
theorem read_cut {n lo hi : Int} (h0 : -9223372036854775808 ≤ n) (h1 : n ≤ 9223372036854775807) : (readS ((grp (zz n)).take ((grp (zz n)).length - 1)) 0 lo hi).1 = 0 ∧ (readS ((grp (zz n)).take ((grp (zz n)).length - 1)) 0 lo hi).2.2 = 3 := by
  unfold readS
  rw [if_neg (by decide), ends_cut (zz_lt h0 h1), if_pos (by decide)]
  exact ⟨rfl, rfl⟩

/-! ### Their only form -/
theorem worth_pos : ∀ (k : Nat) (l : List Int), l.length = k → (∀ x ∈ l, 128 ≤ x ∧ x < 256) → l.getD 0 0 ≠ 128 → 0 < l.length → 0 < worth l ∧ worth l < 128 ^ l.length ∧ grpD (worth l).toNat = l
  | 0, l, hk, _, _, h0 => by omega
  | k + 1, l, hk, hr, hh, _ => by
    obtain ⟨d, c, rfl⟩ : ∃ d c, l = d ++ [c] := ⟨l.dropLast, l.getLast (by intro h; subst h; simp at hk), (List.dropLast_concat_getLast _).symm⟩
    have hc := hr c (by simp)
    rw [List.length_append, List.length_singleton] at hk
    rw [worth_snoc, List.length_append, List.length_singleton]
    by_cases hd : d.length = 0
    · have : d = [] := List.eq_nil_of_length_eq_zero hd
      subst this
      simp only [List.nil_append, List.getD_cons_zero] at hh
      have e : worth [] = 0 := rfl
      rw [e]
      have hv : (0 * 128 + c % 128 : Int) = c - 128 := by omega
      rw [hv]
      refine ⟨by omega, by show c - 128 < 128; omega, ?_⟩
      have hp : 0 < (c - 128).toNat := by omega
      rw [grpD_pos hp, show (c - 128).toNat / 128 = 0 by omega, grpD_0]
      simp
      omega
    · rw [getD_app (by omega)] at hh
      obtain ⟨h1, h2, h3⟩ := worth_pos k d (by omega) (fun x hx => hr x (by simp [hx])) hh (by omega)
      have hv : (c % 128 : Int) = c - 128 := by omega
      rw [hv]
      refine ⟨by omega, ?_, ?_⟩
      · have : worth d + 1 ≤ 128 ^ d.length := h2
        have h4 : (worth d + 1) * 128 ≤ 128 ^ d.length * 128 := Int.mul_le_mul_of_nonneg_right this (by decide)
        rw [Int.pow_succ]
        omega
      · have hp : 0 < (worth d * 128 + (c - 128)).toNat := by omega
        rw [grpD_pos hp, show (worth d * 128 + (c - 128)).toNat / 128 = (worth d).toNat by omega, h3]
        congr 2
        omega
theorem only_form {b : List Int} (hb : ∀ x ∈ b, 0 ≤ x ∧ x < 256) (h : endsL b = (b.length, 0)) (h0 : 0 < b.length) : grp (zz (unz (valL b))) = b := by
  have hv := valL_range b 0 (by decide) (by decide)
  rw [zz_unz (x := valL b) hv.1 hv.2]
  have hlead := lead_le b
  unfold endsL at h
  rw [if_neg (by omega)] at h
  split at h
  · injection h with h1 h2
    exact absurd h2 (by decide)
  rename_i hn
  split at h
  · injection h with h1 h2
    exact absurd h2 (by decide)
  rename_i hne
  split at h
  · injection h with h1 h2
    exact absurd h2 (by decide)
  rename_i hn9
  injection h with h1 _
  obtain ⟨d, c, rfl⟩ : ∃ d c, b = d ++ [c] := ⟨b.dropLast, b.getLast (by intro h; subst h; simp at h0), (List.dropLast_concat_getLast _).symm⟩
  rw [List.length_append, List.length_singleton] at h1
  have hdl : lead (d ++ [c]) = d.length := by omega
  have hdr : ∀ x ∈ d, 128 ≤ x ∧ x < 256 := by
    intro x hx
    obtain ⟨i, hi, rfl⟩ := List.getElem_of_mem hx
    have := lead_in (d ++ [c]) i (by omega)
    rw [List.getD_eq_getElem?_getD, List.getElem?_append_left hi, List.getElem?_eq_getElem hi, Option.getD_some] at this
    have h3 := hb d[i] (by simp)
    omega
  have hc : 0 ≤ c ∧ c < 128 := by
    have h3 := hb c (by simp)
    have := (lead_step (d ++ [c]) d.length (by omega) (by simp)).1
    rw [List.getD_eq_getElem?_getD, List.getElem?_append_right (Nat.le_refl _)] at this
    simp at this
    omega
  have key : 0 ≤ worth d ∧ grpD (worth d).toNat = d ∧ worth d < 144115188075855872 := by
    by_cases hd : d.length = 0
    · have : d = [] := List.eq_nil_of_length_eq_zero hd
      subst this
      exact ⟨by decide, grpD_0, by decide⟩
    · rw [getD_app (by omega)] at hn hn9
      obtain ⟨k1, k2, k3⟩ := worth_pos d.length d rfl hdr (by omega) (by omega)
      refine ⟨by omega, k3, ?_⟩
      by_cases h9 : d.length = 9
      · have hle : d.getD 0 0 ≤ 129 := by omega
        obtain ⟨t, ht, hpos⟩ := grpD_head (worth d).toNat (by omega)
        rw [k3, h9] at ht
        rw [ht] at hle
        simp only [List.getD_cons_zero] at hle
        have : (worth d).toNat / 128 ^ (9 - 1) ≤ 1 := by omega
        have e : (128 : Nat) ^ (9 - 1) = 72057594037927936 := by decide
        rw [e] at this
        omega
      · have h8 : d.length ≤ 8 := by omega
        have h10 := Nat.pow_le_pow_right (show 0 < 128 by decide) h8
        have e : (128 : Nat) ^ 8 = 72057594037927936 := by decide
        have e2 : (128 : Int) ^ d.length = ((128 ^ d.length : Nat) : Int) := by rw [Int.natCast_pow]; rfl
        rw [e2] at k2
        omega
  obtain ⟨k1, k2, k3⟩ := key
  have hval : valL (d ++ [c]) = worth d * 128 + c := by
    rw [valL_worth, worth_snoc]
    omega
  rw [hval]
  unfold grp
  rw [show (worth d * 128 + c).toNat / 128 = (worth d).toNat by omega, k2]
  congr 2
  omega
theorem ends_some {l : List Int} (h : (endsL l).2 = 0) : 0 < (endsL l).1 := by
  unfold endsL at h ⊢
  split
  · rename_i h0
    rw [if_pos h0] at h
    exact absurd h (by decide)
  · rename_i h0
    rw [if_neg h0] at h
    split
    · rename_i h1
      rw [if_pos h1] at h
      exact absurd h (by decide)
    · rename_i h1
      rw [if_neg h1] at h
      split
      · rename_i h2
        rw [if_pos h2] at h
        exact absurd h (by decide)
      · rename_i h2
        rw [if_neg h2] at h
        split
        · rename_i h3
          rw [if_pos h3] at h
          exact absurd h (by decide)
        · simp
theorem read_less {l l2 : List Int} {n lo hi : Int} (h : readS l 0 lo hi = (n, l2, 0)) : l2.length < l.length := by
  have hle := endsL_le l
  unfold readS at h
  rw [if_neg (by decide)] at h
  by_cases he : (endsL l).2 = 0
  · have := ends_some he
    rw [if_neg (by omega)] at h
    split at h
    · injection h with h1 h2
      injection h2 with h2 h3
      exact absurd h3 (by decide)
    · injection h with h1 h2
      injection h2 with h2 h3
      subst h2
      rw [List.length_drop]
      omega
  · rw [if_pos he] at h
    injection h with h1 h2
    injection h2 with h2 h3
    exact absurd h3 he
end Go.Proofs.YticebanhccgglaaDoor
