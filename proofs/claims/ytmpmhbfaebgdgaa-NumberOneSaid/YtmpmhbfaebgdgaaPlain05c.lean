/- Plain laws on numbers as texts. -/
import Derived.Test.YtmpmhbfaebgdgaaRTake
import Derived.Test.YtmpmhbfaebgdgaaRPut
namespace Go.Proofs.Ytmpmhbfaebgdgaa
open Go.RowKit

theorem bt_strOf (l : List Int) (hl : ∀ x ∈ l, 0 ≤ x ∧ x < 256) (i : Nat) (hi : i < l.length) : bt (strOf l) i = l.getD i 0 := by
  have h1 : i < (strOf l).size := by rw [strOf_size]; exact hi
  unfold bt
  rw [dif_pos h1]
  have h2 : (strOf l)[i]'h1 = (l[i]'hi).toNat.toUInt8 := by
    show (strOf l).data[i] = _
    simp [strOf, strOfNums]
  rw [h2]
  have h3 := hl _ (List.getElem_mem hi)
  rw [List.getD_eq_getElem?_getD, List.getElem?_eq_getElem hi, Option.getD_some]
  simp [Nat.toUInt8, UInt8.toNat_ofNat']
  omega

/-- The figures of a list. -/
def scanL (b : Int) : List Int → Int → Option Int
  | [], n => some n
  | c :: l, n => if isFig b c then scanL b l (stepN n b (figN c)) else none
theorem scan_list (l : List Int) (hl : ∀ x ∈ l, 0 ≤ x ∧ x < 256) (b : Int) : ∀ (m i : Nat) (n : Int), l.length - i = m → scan (strOf l) b i n = scanL b (l.drop i) n
  | 0, i, n, h => by
    rw [scan_end (by rw [strOf_size]; omega), List.drop_eq_nil_of_le (by omega)]
    rfl
  | m + 1, i, n, h => by
    have hi : i < l.length := by omega
    have h1 : i < (strOf l).size := by rw [strOf_size]; exact hi
    have e := bt_strOf l hl i hi
    rw [List.getD_eq_getElem?_getD, List.getElem?_eq_getElem hi, Option.getD_some] at e
    rw [List.drop_eq_getElem_cons hi]
    show _ = (if isFig b l[i] then scanL b (l.drop (i + 1)) (stepN n b (figN l[i])) else none)
    rw [← e]
    cases hf : isFig b (bt (strOf l) i) with
    | true => rw [scan_yes h1 hf, if_pos rfl]; exact scan_list l hl b m (i + 1) _ (by omega)
    | false => rw [scan_no h1 hf, if_neg (by decide)]
theorem figN_fig {d : Nat} (h : d < 36) : figN (fig d) = d := by
  unfold figN fig
  split <;> split <;> omega
theorem step_wrap (x b d : Int) : stepN (wrap64 x) b d = wrap64 (x * b + d) := by
  have e : ∀ y z : Int, y % 18446744073709551616 = z % 18446744073709551616 → wrap64 y = wrap64 z := by intro y z h; unfold wrap64; omega
  have e2 : ∀ y : Int, (wrap64 y) % 18446744073709551616 = y % 18446744073709551616 := by intro y; unfold wrap64; omega
  unfold stepN
  apply e
  rw [Int.add_emod, e2, Int.mul_emod, e2, ← Int.mul_emod, ← Int.add_emod]
theorem wrap64_0 : wrap64 0 = 0 := by unfold wrap64; omega
theorem scan_digD {b : Nat} (hb : 2 ≤ b) (hb2 : b ≤ 36) : ∀ (m : Nat) (r : List Int), scanL b (digD b m ++ r) 0 = scanL b r (wrap64 m) := by
  intro m
  induction m using Nat.strongRecOn with
  | ind m ih =>
    intro r
    rcases Nat.eq_zero_or_pos m with h | h
    · subst h
      rw [digD_0]
      show scanL b r 0 = scanL b r (wrap64 0)
      rw [wrap64_0]
    · rw [digD_pos hb h, List.append_assoc, ih (m / b) (Nat.div_lt_self h hb)]
      have hlt : m % b < b := Nat.mod_lt _ (by omega)
      have hf := figN_fig (d := m % b) (by omega)
      have hi : isFig b (fig (m % b)) = true := by
        unfold isFig
        rw [hf, decide_eq_true (by omega), decide_eq_true (by omega)]
        rfl
      show (if isFig b (fig (m % b)) then scanL b r (stepN (wrap64 (m / b : Nat)) b (figN (fig (m % b)))) else none) = _
      rw [if_pos hi, hf, step_wrap]
      congr 2
      have := Nat.div_add_mod m b
      rw [Nat.mul_comm] at this
      exact_mod_cast this
theorem scan_digs {b : Nat} (hb : 2 ≤ b) (hb2 : b ≤ 36) (m : Nat) : scanL b (digs b m) 0 = some (wrap64 m) := by
  rcases Nat.eq_zero_or_pos m with h | h
  · subst h
    rw [digs, if_pos rfl]
    have hi : isFig b (fig 0) = true := by
      unfold isFig
      rw [figN_fig (by decide), decide_eq_true (by decide), decide_eq_true (by omega)]
      rfl
    show (if isFig b (fig 0) then scanL b [] (stepN 0 b (figN (fig 0))) else none) = _
    rw [if_pos hi, figN_fig (by decide)]
    show some (wrap64 (wrap64 (0 * (b : Int)) + ((0 : Nat) : Int))) = some (wrap64 ((0 : Nat) : Int))
    rw [Int.zero_mul, wrap64_0]
    rfl
  · have := scan_digD hb hb2 m []
    rw [List.append_nil] at this
    rw [digs, if_neg (by omega), this]
    rfl
theorem digD_range {b : Nat} (hb : 2 ≤ b) (hb2 : b ≤ 36) : ∀ (m : Nat), ∀ x ∈ digD b m, 48 ≤ x ∧ x ≤ 90 := by
  intro m
  induction m using Nat.strongRecOn with
  | ind m ih =>
    rcases Nat.eq_zero_or_pos m with h | h
    · subst h
      rw [digD_0]
      simp
    · rw [digD_pos hb h]
      intro x hx
      rcases List.mem_append.1 hx with h1 | h1
      · exact ih (m / b) (Nat.div_lt_self h hb) x h1
      · rw [List.mem_singleton] at h1
        subst h1
        exact fig_range (by have := Nat.mod_lt m (show b > 0 by omega); omega)
theorem digs_range {b : Nat} (hb : 2 ≤ b) (hb2 : b ≤ 36) (m : Nat) : ∀ x ∈ digs b m, 48 ≤ x ∧ x ≤ 90 := by
  rw [digs]
  split
  · intro x hx
    rw [List.mem_singleton] at hx
    subst hx
    exact fig_range (by decide)
  · exact digD_range hb hb2 m
theorem digs_pos {b : Nat} (hb : 2 ≤ b) (m : Nat) : 0 < (digs b m).length := by
  rw [digs_eq hb]
  simp
theorem putL_range {b : Nat} (hb : 2 ≤ b) (hb2 : b ≤ 36) (n : Int) : ∀ x ∈ putL n b, 45 ≤ x ∧ x ≤ 90 := by
  unfold putL
  intro x hx
  rcases List.mem_append.1 hx with h | h
  · split at h
    · simp at h; omega
    · simp at h
  · have := digs_range hb hb2 _ x h
    omega
theorem fin_digs {b : Nat} (hb : 2 ≤ b) (hb2 : b ≤ 36) (n : Int) (h0 : -9223372036854775808 ≤ n) (h1 : n ≤ 9223372036854775807) (neg : Bool) (hn : neg = decide (n < 0)) :
    finR (scanL b (digs b n.natAbs) 0) neg = (n, true) := by
  rw [scan_digs hb hb2]
  subst hn
  show ((if decide (n < 0) then neg64 (wrap64 n.natAbs) else wrap64 n.natAbs), true) = _
  congr 1
  by_cases h : n < 0
  · rw [if_pos (decide_eq_true h)]
    unfold neg64 wrap64
    omega
  · rw [if_neg (by simpa using h)]
    unfold wrap64
    omega

/-- Behind a list of at most one sign, the cell is taken back. -/
theorem take_pre (pre : List Int) (k : Nat) (hk : pre.length = k) (n : Int) (b : Nat) (base : Int) (hb : 2 ≤ b) (hb2 : b ≤ 36) (h0 : -9223372036854775808 ≤ n) (h1 : n ≤ 9223372036854775807)
    (hpr : ∀ x ∈ pre, 0 ≤ x ∧ x < 256) (hch : isChar (strOf (pre ++ putL n b)) = false) (hk1 : k1F (strOf (pre ++ putL n b)) = k) (hbF : bF (strOf (pre ++ putL n b)) base = b) :
    takeR (strOf (pre ++ putL n b)) base = (n, true) := by
  have hr := putL_range hb hb2 n
  have hra : ∀ x ∈ pre ++ putL n b, 0 ≤ x ∧ x < 256 := by
    intro x hx
    rcases List.mem_append.1 hx with h | h
    · exact hpr x h
    · have := hr x h
      omega
  have hdp := digs_pos hb n.natAbs
  have hdr := digs_range hb hb2 n.natAbs
  rw [takeR_from, takeF, if_neg (by rw [hch]; decide), hbF]
  have hput : putOk (b : Int) = true := by
    unfold putOk
    rw [decide_eq_true (by omega), decide_eq_true (by omega)]
    rfl
  have hlen : (putL n b).length = (if n < 0 then 1 else 0) + (digs b n.natAbs).length := by
    unfold putL
    split <;> simp <;> omega
  have hsz : (strOf (pre ++ putL n b)).size = k + (putL n b).length := by rw [strOf_size, List.length_append, hk]
  have hbt : bt (strOf (pre ++ putL n b)) k = (putL n b).getD 0 0 := by
    rw [bt_strOf _ hra k (by rw [List.length_append]; omega)]
    rw [List.getD_eq_getElem?_getD, List.getD_eq_getElem?_getD, List.getElem?_append_right (by omega), hk, Nat.sub_self]
  have hmF : mF (strOf (pre ++ putL n b)) = decide (n < 0) := by
    unfold mF
    rw [hk1, hsz, decide_eq_true (by omega), Bool.true_and, hbt]
    simp only [decide_eq_decide]
    unfold putL
    by_cases h : n < 0
    · rw [if_pos h]
      simp [h]
    · rw [if_neg h]
      refine ⟨fun e => ?_, fun e => absurd e h⟩
      have := hdr ((digs b n.natAbs)[0]'hdp) (List.getElem_mem hdp)
      rw [List.nil_append, List.getD_eq_getElem?_getD, List.getElem?_eq_getElem hdp, Option.getD_some] at e
      omega
  have hk2 : k2F (strOf (pre ++ putL n b)) = k + (if n < 0 then 1 else 0) := by
    unfold k2F
    rw [hk1, hmF]
    congr 1
    by_cases h : n < 0
    · rw [decide_eq_true h, if_pos rfl, if_pos h]
    · rw [decide_eq_false h, if_neg (by decide), if_neg h]
  rw [hput, hk2, hsz, decide_eq_true (by omega), Bool.and_self, if_pos rfl, scan_list _ hra _ _ _ _ rfl]
  have hdrop : (pre ++ putL n b).drop (k + (if n < 0 then 1 else 0)) = digs b n.natAbs := by
    rw [← List.drop_drop, List.drop_append_of_le_length (by omega), (List.drop_eq_nil_of_le (by omega) : pre.drop k = []), List.nil_append]
    unfold putL
    by_cases h : n < 0
    · rw [if_pos h, if_pos h]
      rfl
    · rw [if_neg h, if_neg h]
      rfl
  rw [hdrop, hmF]
  exact fin_digs hb hb2 n h0 h1 _ rfl

theorem signB_of (l : List Int) (hl : ∀ x ∈ l, 0 ≤ x ∧ x < 256) (c : Int) (r : List Int) (h : l = c :: r) : signB (strOf l) = if c = 35 then 10 else if c = 36 then 16 else if c = 37 then 2 else 0 := by
  rw [signB_pos (by rw [strOf_size, h]; simp), bt_strOf l hl 0 (by rw [h]; simp), h]
  rfl
theorem isChar_of (l : List Int) (hl : ∀ x ∈ l, 0 ≤ x ∧ x < 256) (c : Int) (r : List Int) (h : l = c :: r) (hc : c ≠ 39) : isChar (strOf l) = false := by
  unfold isChar
  rw [bt_strOf l hl 0 (by rw [h]; simp), h, decide_eq_false (p := (c :: r).getD 0 0 = 39) hc, Bool.false_and, Bool.and_false]
theorem putL_cons {b : Nat} (hb : 2 ≤ b) (hb2 : b ≤ 36) (n : Int) : ∃ c r, putL n b = c :: r ∧ 45 ≤ c := by
  have hdp := digs_pos hb n.natAbs
  cases h : putL n b with
  | nil =>
    have : (putL n b).length = 0 := by rw [h]; rfl
    rw [putL, List.length_append] at this
    omega
  | cons c r => exact ⟨c, r, rfl, (putL_range hb hb2 n c (by rw [h]; simp)).1⟩
theorem take_put (n : Int) (b : Nat) (hb : 2 ≤ b) (hb2 : b ≤ 36) (h0 : -9223372036854775808 ≤ n) (h1 : n ≤ 9223372036854775807) : takeR (strOf (putL n b)) b = (n, true) := by
  obtain ⟨c, r, hc, hc2⟩ := putL_cons hb hb2 n
  have hra : ∀ x ∈ putL n b, 0 ≤ x ∧ x < 256 := fun x hx => by have := putL_range hb hb2 n x hx; omega
  have hsg : signB (strOf (putL n b)) = 0 := by
    rw [signB_of _ hra c r hc, if_neg (by omega), if_neg (by omega), if_neg (by omega)]
  exact take_pre [] 0 rfl n b b hb hb2 h0 h1 (by simp) (isChar_of _ hra c r hc (by omega)) (by show k1F (strOf (putL n b)) = 0; rw [k1F, if_pos hsg]) (by show bF (strOf (putL n b)) b = b; rw [bF, if_pos hsg])
theorem take_sign (c : Int) (n : Int) (b : Nat) (base : Int) (hc : (c = 35 ∧ b = 10) ∨ (c = 36 ∧ b = 16) ∨ (c = 37 ∧ b = 2)) (h0 : -9223372036854775808 ≤ n) (h1 : n ≤ 9223372036854775807) : takeR (strOf (c :: putL n b)) base = (n, true) := by
  have hb : 2 ≤ b ∧ b ≤ 36 := by omega
  have hra : ∀ x ∈ c :: putL n b, 0 ≤ x ∧ x < 256 := by
    intro x hx
    rcases List.mem_cons.1 hx with h | h
    · subst h; omega
    · have := putL_range hb.1 hb.2 n x h
      omega
  have hsg : signB (strOf (c :: putL n b)) = b := by
    rw [signB_of _ hra c _ rfl]
    rcases hc with ⟨rfl, rfl⟩ | ⟨rfl, rfl⟩ | ⟨rfl, rfl⟩ <;> rfl
  have hne : ¬ signB (strOf (c :: putL n b)) = 0 := by rw [hsg]; omega
  exact take_pre [c] 1 rfl n b base hb.1 hb.2 h0 h1 (fun x hx => hra x (by simp at hx; simp [hx])) (isChar_of _ hra c _ rfl (by omega)) (by show k1F (strOf (c :: putL n b)) = 1; rw [k1F, if_neg hne]) (by show bF (strOf (c :: putL n b)) base = b; rw [bF, if_neg hne, hsg])

/-- Lengths. -/
theorem digD_len_b {b : Nat} (hb : 2 ≤ b) : ∀ (k m : Nat), m < b ^ k → (digD b m).length ≤ k
  | 0, m, h => by
    obtain rfl : m = 0 := by simpa using h
    rw [digD_0]
    simp
  | k + 1, m, h => by
    rcases Nat.eq_zero_or_pos m with h0 | h0
    · subst h0
      rw [digD_0]
      simp
    · rw [digD_pos hb h0]
      have h1 : m / b < b ^ k := Nat.div_lt_of_lt_mul (by rw [Nat.pow_succ, Nat.mul_comm] at h; exact h)
      have := digD_len_b hb k (m / b) h1
      simp
      omega
theorem digD_lt {b : Nat} (hb : 2 ≤ b) : ∀ (m : Nat), m < b ^ (digD b m).length := by
  intro m
  induction m using Nat.strongRecOn with
  | ind m ih =>
    rcases Nat.eq_zero_or_pos m with h | h
    · subst h
      rw [digD_0]
      simp
    · have := ih (m / b) (Nat.div_lt_self h hb)
      rw [digD_pos hb h, List.length_append, List.length_singleton, Nat.pow_succ]
      have h1 := Nat.div_add_mod m b
      have h2 := Nat.mod_lt m (show b > 0 by omega)
      have h3 : b * (m / b + 1) ≤ b * b ^ (digD b (m / b)).length := Nat.mul_le_mul_left b this
      rw [Nat.mul_add, Nat.mul_one] at h3
      rw [Nat.mul_comm (b ^ _) b]
      omega
theorem digs_more {b : Nat} (hb : 2 ≤ b) (m : Nat) : (digs (b + 1) m).length ≤ (digs b m).length := by
  unfold digs
  split
  · exact Nat.le_refl _
  · exact digD_len_b (by omega) _ m (Nat.lt_of_lt_of_le (digD_lt hb m) (Nat.pow_le_pow_left (by omega) _))
theorem putL_more {b : Nat} (hb : 2 ≤ b) (n : Int) : (putL n (b + 1)).length ≤ (putL n b).length := by
  have := digs_more hb n.natAbs
  unfold putL
  rw [List.length_append, List.length_append]
  omega
theorem putL_len {b : Nat} (hb : 2 ≤ b) (n : Int) (h0 : -9223372036854775808 ≤ n) (h1 : n ≤ 9223372036854775807) : (putL n b).length ≤ 65 := by
  have := (digs_len (m := n.natAbs) hb (by omega)).2
  unfold putL
  rw [List.length_append]
  split <;> simp <;> omega
theorem putS_eq {n : Int} {b : Nat} (hb : 2 ≤ b) (hb2 : b ≤ 36) : putS n b = strOf (putL n b) := by
  have h : putOk (b : Int) = true := by
    unfold putOk
    rw [decide_eq_true (by omega), decide_eq_true (by omega)]
    rfl
  rw [putS, if_pos h, Int.toNat_natCast]
theorem putL_inj {b : Nat} (hb : 2 ≤ b) (hb2 : b ≤ 36) {n m : Int} (h0 : -9223372036854775808 ≤ n) (h1 : n ≤ 9223372036854775807) (h2 : -9223372036854775808 ≤ m) (h3 : m ≤ 9223372036854775807) (h : strOf (putL n b) = strOf (putL m b)) : n = m := by
  have e1 := take_put n b hb hb2 h0 h1
  rw [h, take_put m b hb hb2 h2 h3] at e1
  injection e1 with e2
  exact e2.symm
end Go.Proofs.Ytmpmhbfaebgdgaa
