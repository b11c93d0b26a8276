/- nostosref05.Put. -/
import Derived.Test.YtmpmhbfaebgdgaaPut
namespace Go.Proofs.Ytmpmhbfaebgdgaa
open Go.RowKit

theorem letter_any (d : Nat) (w : World) (hd : d < 36) :
    Calls Try.prog 14 #[.int .i64 d] w fun e w' => e = .returned (.int .u8 (fig d)) ∧ w = w' := by
  unfold fig
  by_cases h : d < 10
  · rw [if_pos h]
    have e1 : IntKind.u8.wrap (48 + (d : Int)) = 48 + d := IntWalk.u8_in _ (by omega)
    go_enter Try.func14, Try.ntmps14
    go_wp2
    go_ret
    exact ⟨rfl, rfl⟩
  · rw [if_neg h]
    have e1 : IntKind.u8.wrap (65 + (d : Int) - 10) = 55 + d := by rw [IntWalk.u8_in _ (by omega)]; omega
    go_enter Try.func14, Try.ntmps14
    go_wp2
    go_ret
    exact ⟨rfl, rfl⟩

theorem strOf_app (a b : List Int) : strOf a ++ strOf b = strOf (a ++ b) := by
  apply ByteArray.ext
  simp [strOf, strOfNums]
theorem strOf_size (l : List Int) : (strOf l).size = l.length := strOfNums_size l

theorem conv1 (w : World) (x : Int) : (convert 34 9 (.slice (some ⟨w.heap.size, 0, none⟩) 1 1)).run Try.prog (w.alloc (.cells #[.int .u8 x] 5)) = .ok (.string (strOf [x])) (w.alloc (.cells #[.int .u8 x] 5)) := by
  have h : RdI (w.alloc (.cells #[.int .u8 x] 5)) .u8 (some ⟨w.heap.size, 0, none⟩) 1 [x] := rd_alloc w (nums .u8 [x]) #[.int .u8 x] 5 (0, 0) 1 1 1 rfl rfl (by decide) (by decide)
  exact conv_rd (P := Try.prog) Try.underlying34 Try.underlying5 Try.underlying9 h
theorem strOf_some (l : List Int) (h : l ≠ []) : (strOf l).toList.isEmpty = false := by
  rw [ByteArray.toList_eq]
  cases l with
  | nil => exact absurd rfl h
  | cons a b => rfl

/-- Is it the empty text? -/
def emp : Value → Nat
  | .string s => if s.size = 0 then 1 else 0
  | _ => 0
theorem emp_cons (x : Int) (l : List Int) : emp (.string (strOf (x :: l))) = 0 := by
  rw [emp, if_neg]
  rw [strOf_size]
  simp
theorem emp_nil : emp (.string (strOf [])) = 1 := rfl

set_option maxHeartbeats 1000000 in
set_option maxRecDepth 100000 in
theorem RPut_nat (s : Bool) (m0 b : Nat) (w : World) (hb0 : 2 ≤ b) (hb1 : b ≤ 36) (h0 : m0 ≤ 9223372036854775808) (hs : s = true → 0 < m0) (hs2 : s = false → m0 ≤ 9223372036854775807) :
    Calls Try.prog 10 #[.int .i64 (if s then -(m0 : Int) else m0), .int .i64 b] w fun e w' => e = .returned (.tuple #[.string (strOf ((if s then [45] else []) ++ digs b m0)), .bool true]) ∧ Below w.heap.size w w' := by
  have hl64 := digs_len (b := b) (m := m0) hb0 (by omega)
  have HL64 := Lib.hid hl64
  have HB2 := Lib.hid hb0
  clear hl64
  cases s with
  | true =>
    have hm := hs rfl
    simp only [if_true]
    clear hs hs2
    go_enter Try.func10, Try.ntmps10
    go_wp2_with fail
    go_loopw [6, 7] (fun out left wr => ∃ (m : Nat) (suf : List Int), out = .string (strOf suf) ∧ left = .int .i64 (-(m : Int)) ∧ m ≤ 9223372036854775808 ∧ suf.length ≤ 64 ∧ Hid ((suf = [] ∧ m = m0) ∨ (suf ≠ [] ∧ digD b m ++ suf = digs b m0)) ∧ Hid (Below w.heap.size w wr)) (fun out left _ => (intOf left).natAbs + emp out)
    case atStart => exact ⟨m0, [], rfl, rfl, by omega, by simp, Lib.hid (.inl ⟨rfl, rfl⟩), Lib.hid (Below.refl _ _)⟩
    case round =>
      obtain ⟨m, suf, rfl, rfl, hm2, hsl, HF, HB⟩ := hrel
      by_cases hgo : 0 < m ∨ suf = []
      · have hd : (-(m : Int)).tmod (b : Int) = -((m % b : Nat) : Int) := by rw [Int.neg_tmod, Int.tmod_eq_emod_of_nonneg (by omega)]; rfl
        have hq : (-(m : Int)).tdiv (b : Int) = -((m / b : Nat) : Int) := by rw [Int.neg_tdiv, Int.tdiv_eq_ediv_of_nonneg (by omega)]; rfl
        have hd36 : m % b < 36 := by have := Nat.mod_lt m (show 0 < b by omega); omega
        have hqm : m / b ≤ 9223372036854775808 := Nat.le_trans (Nat.div_le_self _ _) hm2
        have hdec : m / b + emp (.string (strOf (fig (m % b) :: suf))) < m + emp (.string (strOf suf)) := by
          rw [emp_cons]
          rcases hgo with h | h
          · have := Nat.div_lt_self h hb0
            omega
          · subst h
            rw [emp_nil]
            have := Nat.div_le_self m b
            omega
        have HNX : Hid (digD b (m / b) ++ (fig (m % b) :: suf) = digs b m0) := Lib.hid (by
          rcases HF.out with ⟨h1, h2⟩ | ⟨h1, h2⟩
          · rw [h1, h2, digs_eq HB2.out]
          · have h3 : 0 < m := by rcases hgo with h | h; exact h; exact absurd h h1
            rw [digD_pos HB2.out h3] at h2
            simpa using h2)
        have hfl : (fig (m % b) :: suf).length ≤ 64 := by
          have := congrArg List.length HNX.out
          rw [List.length_append] at this
          have := HL64.out
          omega
        have HLET : Hid (∀ w, Calls Try.prog 14 #[.int .i64 (m % b : Nat)] w fun e w' => e = .returned (.int .u8 (fig (m % b))) ∧ w = w') := Lib.hid (fun w => letter_any _ w hd36)
        have HD0 : Hid (m = 0 → m % b = 0 ∧ m / b = 0) := Lib.hid (fun h => by rw [h]; simp)
        generalize m % b = d at *
        generalize m / b = q at *
        generalize fig d = x at *
        have hcv := conv1 wr x
        have hap := strOf_app [x] suf
        have hs1 := strOf_size [x]
        have hs2 := strOf_size suf
        have HBA := Lib.hid (HB.out.alloc HB.out.size (.cells #[.int .u8 x] 5))
        have HDEC := Lib.hid hdec
        clear hdec
        rw [show [x] ++ suf = x :: suf from rfl] at hap
        rcases Nat.eq_zero_or_pos m with hm0 | hm0
        · exfalso
          rcases HF.out with ⟨_, h⟩ | ⟨h, _⟩
          · omega
          · rcases hgo with h2 | h2
            · omega
            · exact h h2
        · have hne1 : ((-(m : Int)) == 0) = false := by simp; omega
          have hne2 : ((-(m : Int)) != 0) = true := by simp; omega
          by_cases hd0 : d = 0
          · subst hd0
            go_wp2_with (go_at_call 14; refine (HLET.out _).mono ?_; rintro e w' ⟨rfl, rfl⟩)
            go_roundw
            case rel => exact ⟨q, x :: suf, rfl, rfl, by omega, hfl, Lib.hid (.inr ⟨by simp, HNX.out⟩), HBA⟩
            case measure => have := HDEC.out; simp [intOf] at this ⊢ <;> omega
          · go_wp2_with (go_at_call 14; refine (HLET.out _).mono ?_; rintro e w' ⟨rfl, rfl⟩)
            go_roundw
            case rel => exact ⟨q, x :: suf, rfl, rfl, by omega, hfl, Lib.hid (.inr ⟨by simp, HNX.out⟩), HBA⟩
            case measure => have := HDEC.out; simp [intOf] at this ⊢ <;> omega
      · obtain rfl : m = 0 := by rcases Nat.eq_zero_or_pos m with h | h; exact h; exact absurd (.inl h) hgo
        have hne : suf ≠ [] := fun h => hgo (.inr h)
        have hdr : suf = digs b m0 := by
          rcases HF.out with ⟨h, _⟩ | ⟨_, h⟩
          · exact absurd h hne
          · rw [digD_0] at h
            simpa using h
        have hemp := strOf_some suf hne
        have hap := strOf_app [45] suf
        have hs2 := strOf_size suf
        rw [show (strOf [45] : ByteArray) = ⟨#[45]⟩ from rfl] at hap
        rw [hdr] at hap hemp hs2 ⊢
        clear hdr hne hgo HF hsl
        have hl1 := HL64.out.2
        go_wp2
        go_ret2
        exact ⟨rfl, HB.out⟩
  | false =>
    have hm := hs2 rfl
    simp only [Bool.false_eq_true, if_false]
    clear hs hs2
    go_enter Try.func10, Try.ntmps10
    go_wp2_with fail
    go_loopw [6, 7] (fun out left wr => ∃ (m : Nat) (suf : List Int), out = .string (strOf suf) ∧ left = .int .i64 (m : Int) ∧ m ≤ 9223372036854775807 ∧ suf.length ≤ 64 ∧ Hid ((suf = [] ∧ m = m0) ∨ (suf ≠ [] ∧ digD b m ++ suf = digs b m0)) ∧ Hid (Below w.heap.size w wr)) (fun out left _ => (intOf left).natAbs + emp out)
    case atStart => exact ⟨m0, [], rfl, rfl, by omega, by simp, Lib.hid (.inl ⟨rfl, rfl⟩), Lib.hid (Below.refl _ _)⟩
    case round =>
      obtain ⟨m, suf, rfl, rfl, hm2, hsl, HF, HB⟩ := hrel
      by_cases hgo : 0 < m ∨ suf = []
      · have hd : (m : Int).tmod (b : Int) = ((m % b : Nat) : Int) := by rw [Int.tmod_eq_emod_of_nonneg (by omega)]; rfl
        have hq : (m : Int).tdiv (b : Int) = ((m / b : Nat) : Int) := by rw [Int.tdiv_eq_ediv_of_nonneg (by omega)]; rfl
        have hd36 : m % b < 36 := by have := Nat.mod_lt m (show 0 < b by omega); omega
        have hqm : m / b ≤ 9223372036854775807 := Nat.le_trans (Nat.div_le_self _ _) hm2
        have hdec : m / b + emp (.string (strOf (fig (m % b) :: suf))) < m + emp (.string (strOf suf)) := by
          rw [emp_cons]
          rcases hgo with h | h
          · have := Nat.div_lt_self h hb0
            omega
          · subst h
            rw [emp_nil]
            have := Nat.div_le_self m b
            omega
        have HNX : Hid (digD b (m / b) ++ (fig (m % b) :: suf) = digs b m0) := Lib.hid (by
          rcases HF.out with ⟨h1, h2⟩ | ⟨h1, h2⟩
          · rw [h1, h2, digs_eq HB2.out]
          · have h3 : 0 < m := by rcases hgo with h | h; exact h; exact absurd h h1
            rw [digD_pos HB2.out h3] at h2
            simpa using h2)
        have hfl : (fig (m % b) :: suf).length ≤ 64 := by
          have := congrArg List.length HNX.out
          rw [List.length_append] at this
          have := HL64.out
          omega
        have HLET : Hid (∀ w, Calls Try.prog 14 #[.int .i64 (m % b : Nat)] w fun e w' => e = .returned (.int .u8 (fig (m % b))) ∧ w = w') := Lib.hid (fun w => letter_any _ w hd36)
        have HD0 : Hid (m = 0 → m % b = 0 ∧ m / b = 0) := Lib.hid (fun h => by rw [h]; simp)
        generalize m % b = d at *
        generalize m / b = q at *
        generalize fig d = x at *
        have hcv := conv1 wr x
        have hap := strOf_app [x] suf
        have hs1 := strOf_size [x]
        have hs2 := strOf_size suf
        have HBA := Lib.hid (HB.out.alloc HB.out.size (.cells #[.int .u8 x] 5))
        have HDEC := Lib.hid hdec
        clear hdec
        rw [show [x] ++ suf = x :: suf from rfl] at hap
        rcases Nat.eq_zero_or_pos m with hm0 | hm0
        · obtain ⟨rfl, rfl⟩ := HD0.out hm0
          subst hm0
          obtain rfl : suf = [] := by rcases hgo with h | h; exact absurd h (by omega); exact h
          have hem : (strOf []).toList.isEmpty = true := by rw [ByteArray.toList_eq]; rfl
          go_wp2_with (go_at_call 14; refine (HLET.out _).mono ?_; rintro e w' ⟨rfl, rfl⟩)
          go_roundw
          case rel => exact ⟨0, x :: [], rfl, rfl, by omega, hfl, Lib.hid (.inr ⟨by simp, HNX.out⟩), HBA⟩
          case measure => have := HDEC.out; simp [intOf] at this ⊢ <;> omega
        · have hne1 : ((m : Int) == 0) = false := by simp; omega
          have hne2 : ((m : Int) != 0) = true := by simp; omega
          go_wp2_with (go_at_call 14; refine (HLET.out _).mono ?_; rintro e w' ⟨rfl, rfl⟩)
          go_roundw
          case rel => exact ⟨q, x :: suf, rfl, rfl, by omega, hfl, Lib.hid (.inr ⟨by simp, HNX.out⟩), HBA⟩
          case measure => have := HDEC.out; simp [intOf] at this ⊢ <;> omega
      · obtain rfl : m = 0 := by rcases Nat.eq_zero_or_pos m with h | h; exact h; exact absurd (.inl h) hgo
        have hne : suf ≠ [] := fun h => hgo (.inr h)
        have hdr : suf = digs b m0 := by
          rcases HF.out with ⟨h, _⟩ | ⟨_, h⟩
          · exact absurd h hne
          · rw [digD_0] at h
            simpa using h
        have hemp := strOf_some suf hne
        have hap := strOf_app [45] suf
        have hs2 := strOf_size suf
        rw [show (strOf [45] : ByteArray) = ⟨#[45]⟩ from rfl] at hap
        rw [hdr] at hap hemp hs2 ⊢
        clear hdr hne hgo HF hsl
        have hl1 := HL64.out.2
        go_wp2
        go_ret2
        exact ⟨rfl, HB.out⟩

theorem RPut_is (n b : Int) (w : World) (s : ByteArray) (r : Bool) (hr : putOk b = r) (hs : putS n b = s) (h0 : -9223372036854775808 ≤ n) (h1 : n ≤ 9223372036854775807) :
    Calls Try.prog 10 #[.int .i64 n, .int .i64 b] w fun e w' => e = .returned (.tuple #[.string s, .bool r]) ∧ Below w.heap.size w w' := by
  subst hs
  cases r with
  | false =>
    rw [putS, if_neg (by rw [hr]; decide)]
    have hb : ¬ 2 ≤ b ∨ ¬ b ≤ 36 := by
      unfold putOk at hr
      rw [Bool.and_eq_false_iff] at hr
      simpa using hr
    clear hr
    by_cases h2 : b < 2
    · go_enter Try.func10, Try.ntmps10
      go_wp2
      go_ret2
      exact ⟨rfl, Below.refl _ _⟩
    · have h3 : 36 < b := by omega
      clear hb
      go_enter Try.func10, Try.ntmps10
      go_wp2
      go_ret2
      exact ⟨rfl, Below.refl _ _⟩
  | true =>
    rw [putS, if_pos hr]
    have hb : 2 ≤ b ∧ b ≤ 36 := by simpa [putOk] using hr
    obtain ⟨b, rfl⟩ := Int.eq_ofNat_of_zero_le (show 0 ≤ b by omega)
    rw [Int.toNat_natCast, putL]
    by_cases hn : n < 0
    · have := RPut_nat true n.natAbs b w (by omega) (by omega) (by omega) (by omega) (by intro h; cases h)
      rw [if_pos rfl, if_pos rfl, show -((n.natAbs : Nat) : Int) = n by omega] at this
      rw [if_pos hn]
      exact this
    · have := RPut_nat false n.natAbs b w (by omega) (by omega) (by omega) (by intro h; cases h) (by omega)
      rw [if_neg (by decide), if_neg (by decide), show ((n.natAbs : Nat) : Int) = n by omega] at this
      rw [if_neg hn]
      exact this
end Go.Proofs.Ytmpmhbfaebgdgaa
