
/- nostosref08: what each call does. -/
import Derived.Test.YtappfhjknihboaaGreatDoorMD
import Derived.Test.YtappfhjknihboaaGreatDoorMA
namespace Go.Proofs.YtappfhjknihboaaGreatDoor
open Go.RowKit

theorem get_all (k : Nat) (h : k < 653) : ∃ h2 : k < (⟨allL.toArray⟩ : ByteArray).size, (((⟨allL.toArray⟩ : ByteArray)[k]'h2).toNat : Int) = allI k := by
  have h2 : k < allL.length := by rw [allL_len]; exact h
  refine ⟨by show k < allL.toArray.size; simpa using h2, ?_⟩
  rw [allI, List.getD_eq_getElem?_getD, List.getElem?_eq_getElem h2]
  rfl
/-- A byte of the constant, at the operation. -/
theorem wp_allidx {P : Program} {ops : Array Oper} {rest : List Oper} {o : Oper} {a : Act} {Q : Exit → Act → World → Prop} {w : World} (hgd : o.guard = none) (t : TypeId) (s : ByteArray) (x : Operand)
    (ho : o.op = .index t (.const (.string s)) x) (hs : s = ⟨allL.toArray⟩) (ht : P.underlying t = some .string) (k : Nat) (hk : k < 653) (hx : a.eval x = .int .i64 k)
    (h : wpList P ops Q rest (a.put o.dst (.int .u8 (allI k))) w) : wpList P ops Q (o :: rest) a w := by
  refine wpList_plain hgd fun K' hK' => ?_
  obtain ⟨h2, h3⟩ := get_all k hk
  subst hs
  have hrun : (Instr.index t (.string ⟨allL.toArray⟩) (.int .i64 k)).run P w = .ok (.int .u8 (allI k)) w := by
    rw [run_index_string w t _ .i64 k ht, dif_pos ⟨by omega, by omega⟩, ← h3]
    rfl
  have hc : a.eval (.const (.string ⟨allL.toArray⟩)) = .string ⟨allL.toArray⟩ := rfl
  unfold Oper.wp
  simp [execOp, ho, hx, hc, hrun, Result.andThen]
  exact hK' _ _ h
/-- A cut of it. -/
theorem wp_allcut {P : Program} {ops : Array Oper} {rest : List Oper} {o : Oper} {a : Act} {Q : Exit → Act → World → Prop} {w : World} (hgd : o.guard = none) (t : TypeId) (s : ByteArray) (x y : Operand)
    (ho : o.op = .slice t (.const (.string s)) (some x) (some y) none) (hs : s = ⟨allL.toArray⟩) (ht : P.underlying t = some .string) (n : Nat) (hn : n < 137) (hx : a.eval x = .int .i64 (startN n)) (j : Nat) (hj : j = startN n + (nm n).size) (hy : a.eval y = .int .i64 j)
    (h : wpList P ops Q rest (a.put o.dst (.string (nm n))) w) : wpList P ops Q (o :: rest) a w := by
  refine wpList_plain hgd fun K' hK' => ?_
  subst hs
  have hlt := all_lt n hn
  have e1 : (⟨allL.toArray⟩ : ByteArray).size = 653 := by show allL.toArray.size = 653; simpa using allL_len
  have e2 : (⟨allL.toArray⟩ : ByteArray).extract (startN n) j = nm n := by
    rw [hj]
    apply ByteArray.ext
    apply Array.toList_inj.1
    have := all_cut n hn
    rw [← this]
    simp [List.take_drop]
  have hrun : (Instr.sliceAt t (.string ⟨allL.toArray⟩) (some (.int .i64 (startN n))) (some (.int .i64 j)) none).run P w = .ok (.string (nm n)) w := by
    rw [run_sliceAt_string w t _ _ _ _ ht, run_slice_string (P := P) w t ⟨allL.toArray⟩ .i64 .i64 (startN n) j ht (by omega) (by omega) (by rw [e1]; omega)]
    rw [Int.toNat_natCast, Int.toNat_natCast, e2]
  have hc : a.eval (.const (.string ⟨allL.toArray⟩)) = .string ⟨allL.toArray⟩ := rfl
  unfold Oper.wp
  simp [execOp, ho, hx, hy, hc, hrun, Result.andThen]
  exact hK' _ _ h

/-- The whole run of the reference's loops: at which word, and how far in it. -/
structure Scan (n j i at_ num : Nat) : Prop where
  hn : n < 137
  hj : j ≤ (nm n).size
  hi : i = startN n + j
  ha : at_ = startN n
  hm : num = n + 1

theorem Scan.first : Scan 0 0 0 0 1 := ⟨by decide, Nat.zero_le _, by decide +kernel, by decide +kernel, rfl⟩
theorem Scan.le {n j i a m : Nat} (h : Scan n j i a m) : i ≤ 653 := by
  obtain ⟨h1, h2, rfl, rfl, rfl⟩ := h
  have := all_lt n h1
  omega
/-- A byte within the word: one more. -/
theorem Scan.within {n j i a m : Nat} (h : Scan n j i a m) (hj : j < (nm n).size) : i < 653 ∧ allI i ≠ 32 ∧ Scan n (j + 1) (i + 1) a m := by
  obtain ⟨h1, h2, rfl, rfl, rfl⟩ := h
  have := all_lt n h1
  refine ⟨by omega, fun e => all_in n h1 j hj ?_, ⟨h1, by omega, by omega, rfl, rfl⟩⟩
  rw [allI] at e
  exact UInt8.toNat_inj.1 (by simpa using Int.ofNat_inj.1 e)
/-- Behind the word, not the last one. -/
theorem Scan.behind {n j i a m : Nat} (h : Scan n j i a m) (hj : j = (nm n).size) (hn : n < 136) : i < 653 ∧ allI i = 32 ∧ Scan (n + 1) 0 (i + 1) (i + 1) (m + 1) := by
  obtain ⟨h1, h2, rfl, rfl, rfl⟩ := h
  subst hj
  have h3 := all_sep n hn
  have h4 := all_next n hn
  have h5 := all_lt2 n hn
  exact ⟨h5, by rw [allI, h3]; rfl, ⟨by omega, Nat.zero_le _, by omega, by omega, rfl⟩⟩
theorem Scan.last {n j i a m : Nat} (h : Scan n j i a m) (hj : j = (nm n).size) (hn : ¬ n < 136) : n = 136 ∧ i = 653 := by
  obtain ⟨h1, h2, rfl, rfl, rfl⟩ := h
  subst hj
  obtain rfl : n = 136 := by omega
  exact ⟨rfl, all_end⟩

theorem RInner_any (op : Int) (b : Bool) (w : World) (hb : innerR op = b) :
    Calls Tryz.prog 95 #[.int .i64 op] w fun e w' => e = .returned (.bool b) ∧ w = w' := by
  have HB := Lib.hid hb
  clear hb
  by_cases h1 : 2 ≤ op
  · go_enter Tryz.func95, Tryz.ntmps95
    go_wp2
    go_ret
    refine ⟨ret_bool ?_, rfl⟩
    rw [← HB.out, innerR]
    simp only [decide_eq_decide]
    omega
  · obtain rfl : b = false := by rw [← HB.out]; simp [innerR]; omega
    go_enter Tryz.func95, Tryz.ntmps95
    go_wp2
    go_ret
    exact ⟨rfl, rfl⟩

theorem RNow_any (op : Int) (b : Bool) (w : World) (hb : nowR op = b) :
    Calls Tryz.prog 36 #[.int .i64 op] w fun e w' => e = .returned (.bool b) ∧ w = w' := by
  have HB := Lib.hid hb
  clear hb
  go_enter Tryz.func36, Tryz.ntmps36
  go_wp2
  all_goals
    go_ret
    refine ⟨ret_bool ?_, rfl⟩
    rw [← HB.out, nowR]
    clear HB
    rw [Bool.eq_iff_iff]
    simp only [Bool.or_eq_true, decide_eq_true_eq, beq_iff_eq, true_iff]
    omega

/-- Where the reference's loop stands. -/
def St (op : Int) (i a m : Nat) : Prop := (∃ n j, Scan n j i a m ∧ Hid (∀ k, k < n → op ≠ k + 1)) ∨ (i = 654 ∧ ¬ (1 ≤ op ∧ op ≤ 137))

theorem eq_toList (a b : ByteArray) : (a.toList == b.toList) = decide (a = b) := by
  rw [ByteArray.toList_eq, ByteArray.toList_eq, Bool.eq_iff_iff]
  simp only [beq_iff_eq, decide_eq_true_eq]
  constructor
  · intro h
    apply ByteArray.ext
    exact Array.toList_inj.1 h
  · intro h
    rw [h]

theorem findR_at {f : ByteArray} {n : Nat} (hn : n < 137) (hf : nm n = f) (hi : innerR ((n : Int) + 1) = false) : findR f = n + 1 := by
  subst hf
  rw [findR, nm_idx n hn, if_pos ⟨hn, hi⟩]
theorem findR_no {f : ByteArray} (h : ∀ k : Nat, k < 137 → innerR ((k : Int) + 1) = false → nm k ≠ f) : findR f = 0 := by
  rw [findR, if_neg]
  rintro ⟨h1, h2⟩
  exact h _ h1 h2 (nmIdx_at h1)
/-- Where the reference's search stands. -/
def Sf (f : ByteArray) (i a m : Nat) : Prop := (∃ n j, Scan n j i a m ∧ Hid (∀ k : Nat, k < n → innerR ((k : Int) + 1) = false → nm k ≠ f)) ∨ (i = 654 ∧ findR f = 0)

set_option maxHeartbeats 2000000 in
set_option maxRecDepth 100000 in
theorem RFind_any (s : ByteArray) (r : Int) (w : World) (hr : findR (foldB s) = r) (hs : s.size ≤ 140737488355327) :
    Calls Tryz.prog 35 #[.string s] w fun e w' => e = .returned (.int .i64 r) ∧ Below w.heap.size w w' := by
  have HR := Lib.hid hr
  clear hr
  go_enter Tryz.func35, Tryz.ntmps35
  go_wp2_with fail
  refine (RFold_any s _ hs).mono ?_
  rintro e w1 ⟨rfl, hb⟩
  have HB := Lib.hid hb
  clear hb
  generalize foldB s = f at *
  go_wp2_with fail
  go_loop [4, 5, 6] (fun x y z => ∃ i a m : Nat, x = .int .i64 a ∧ y = .int .i64 m ∧ z = .int .i64 i ∧ Sf f i a m) (fun _ _ z => 654 - (intOf z).toNat)
  case atStart => exact ⟨0, 0, 1, rfl, rfl, rfl, .inl ⟨0, 0, Scan.first, Lib.hid (fun k hk => by omega)⟩⟩
  case round =>
    obtain ⟨i, a, m, rfl, rfl, rfl, hst⟩ := hrel
    rcases hst with ⟨n, j, HSC, HN⟩ | ⟨rfl, hno⟩
    rotate_left
    · obtain rfl : 0 = r := by rw [← HR.out, hno]
      clear hno
      go_wp2
      go_ret
      exact ⟨rfl, HB.out⟩
    have hle := HSC.le
    by_cases hj : j < (nm n).size
    · obtain ⟨h1, h2, h3⟩ := HSC.within hj
      have H3 := Lib.hid h3
      have b1 : decide ((i : Int) < 653) = true := by simp; omega
      have b2 : (allI i != 32) = true := by simpa using h2
      clear HSC h3 h2 hj
      go_wp2_with (refine wp_take rfl ?_; refine wp_allidx rfl 9 _ _ rfl (by kernel_rfl) Tryz.underlying9 i h1 rfl ?_)
      go_round
      case rel => exact ⟨i + 1, a, m, rfl, rfl, by go_num, .inl ⟨n, j + 1, H3.out, HN⟩⟩
      case measure => simp [intOf] <;> omega
    · have hj2 : j = (nm n).size := by have := HSC.hj; omega
      have hm := HSC.hm
      have hm3 : m ≤ 137 := by have := HSC.hn; omega
      have hn := HSC.hn
      have ha := HSC.ha
      have hi : i = startN n + (nm n).size := by have := HSC.hi; omega
      have HI := Lib.hid hi
      have HA := Lib.hid ha
      have HM := Lib.hid hm
      have em : (m : Int) = (n : Int) + 1 := by omega
      have HL := Lib.hid (fun h => HSC.last hj2 h)
      have HH := Lib.hid (fun h => HSC.behind hj2 h)
      have HEM := Lib.hid em
      have hin := innerR ((n : Int) + 1)
      clear HSC hj hj2 hi ha hm em
      obtain ⟨b, hb⟩ : ∃ b, innerR (m : Int) = b := ⟨_, rfl⟩
      have HIN := Lib.hid hb
      clear hb
      have next : (innerR ((n : Int) + 1) = false → nm n ≠ f) → Hid (∀ k : Nat, k < n + 1 → innerR ((k : Int) + 1) = false → nm k ≠ f) := fun h => Lib.hid (fun k hk => by
        rcases Nat.lt_or_ge k n with h1 | h1
        · exact HN.out k h1
        · obtain rfl : k = n := by omega
          exact h)
      by_cases hn2 : n < 136
      · obtain ⟨h1, h2, h3⟩ := HH.out hn2
        have NX : Hid (Hid (∀ k : Nat, k < n + 1 → innerR ((k : Int) + 1) = false → nm k ≠ f) → Sf f (i + 1) (i + 1) (m + 1)) := Lib.hid (fun h => .inl ⟨n + 1, 0, h3, h⟩)
        have b1 : decide ((i : Int) < 653) = true := by simp; omega
        have b2 : (allI i != 32) = false := by simpa using h2
        clear h3 h2 hn2 HH HL hin
        cases b with
        | true =>
          have N2 := next (fun h => by have := HIN.out; rw [HEM.out, h] at this; cases this)
          have HSF := Lib.hid (NX.out N2)
          clear next N2
          go_wp2_with (first | (refine wp_take rfl ?_; refine wp_allidx rfl 9 _ _ rfl (by kernel_rfl) Tryz.underlying9 i h1 rfl ?_) | (go_at_call 95; refine (RInner_any _ _ _ HIN.out).mono ?_; rintro e w' ⟨rfl, rfl⟩))
          go_round
          case rel => exact ⟨i + 1, i + 1, m + 1, by go_num, by go_num, by go_num, HSF.out⟩
          case measure => simp [intOf] <;> omega
        | false =>
          have heq := eq_toList (nm n) f
          obtain rfl := HA.out
          by_cases he : nm n = f
          · rw [decide_eq_true he] at heq
            have hr2 : (m : Int) = r := by rw [← HR.out, findR_at hn he (by rw [← HEM.out]; exact HIN.out), HEM.out]
            have HR2 := Lib.hid hr2
            clear next he hr2
            go_wp2_with (first | (refine wp_take rfl ?_; refine wp_allidx rfl 9 _ _ rfl (by kernel_rfl) Tryz.underlying9 i h1 rfl ?_) | (go_at_call 95; refine (RInner_any _ _ _ HIN.out).mono ?_; rintro e w' ⟨rfl, rfl⟩) | (refine wp_take rfl ?_; refine wp_allcut rfl 9 _ _ _ rfl (by kernel_rfl) Tryz.underlying9 n hn rfl i HI.out rfl ?_))
            go_ret
            exact ⟨by rw [← HR2.out]; rfl, HB.out⟩
          · rw [decide_eq_false he] at heq
            have N2 := next (fun _ => he)
            have HSF := Lib.hid (NX.out N2)
            clear next N2 he
            go_wp2_with (first | (refine wp_take rfl ?_; refine wp_allidx rfl 9 _ _ rfl (by kernel_rfl) Tryz.underlying9 i h1 rfl ?_) | (go_at_call 95; refine (RInner_any _ _ _ HIN.out).mono ?_; rintro e w' ⟨rfl, rfl⟩) | (refine wp_take rfl ?_; refine wp_allcut rfl 9 _ _ _ rfl (by kernel_rfl) Tryz.underlying9 n hn rfl i HI.out rfl ?_))
            go_round
            case rel => exact ⟨i + 1, i + 1, m + 1, by go_num, by go_num, by go_num, HSF.out⟩
            case measure => simp [intOf] <;> omega
      · obtain ⟨h136, h653⟩ := HL.out hn2
        have NX : Hid (Hid (∀ k : Nat, k < n + 1 → innerR ((k : Int) + 1) = false → nm k ≠ f) → Sf f (i + 1) (i + 1) (m + 1)) := Lib.hid (fun h => .inr ⟨by omega, findR_no (fun k hk => h.out k (by omega))⟩)
        have b1 : decide ((i : Int) < 653) = false := by simp; omega
        clear hn2 HH HL hin h136 h653
        cases b with
        | true =>
          have N2 := next (fun h => by have := HIN.out; rw [HEM.out, h] at this; cases this)
          have HSF := Lib.hid (NX.out N2)
          clear next N2
          go_wp2_with (first | (go_at_call 95; refine (RInner_any _ _ _ HIN.out).mono ?_; rintro e w' ⟨rfl, rfl⟩))
          go_round
          case rel => exact ⟨i + 1, i + 1, m + 1, by go_num, by go_num, by go_num, HSF.out⟩
          case measure => simp [intOf] <;> omega
        | false =>
          have heq := eq_toList (nm n) f
          obtain rfl := HA.out
          by_cases he : nm n = f
          · rw [decide_eq_true he] at heq
            have hr2 : (m : Int) = r := by rw [← HR.out, findR_at hn he (by rw [← HEM.out]; exact HIN.out), HEM.out]
            have HR2 := Lib.hid hr2
            clear next he hr2
            go_wp2_with (first | (go_at_call 95; refine (RInner_any _ _ _ HIN.out).mono ?_; rintro e w' ⟨rfl, rfl⟩) | (refine wp_take rfl ?_; refine wp_allcut rfl 9 _ _ _ rfl (by kernel_rfl) Tryz.underlying9 n hn rfl i HI.out rfl ?_))
            go_ret
            exact ⟨by rw [← HR2.out]; rfl, HB.out⟩
          · rw [decide_eq_false he] at heq
            have N2 := next (fun _ => he)
            have HSF := Lib.hid (NX.out N2)
            clear next N2 he
            go_wp2_with (first | (go_at_call 95; refine (RInner_any _ _ _ HIN.out).mono ?_; rintro e w' ⟨rfl, rfl⟩) | (refine wp_take rfl ?_; refine wp_allcut rfl 9 _ _ _ rfl (by kernel_rfl) Tryz.underlying9 n hn rfl i HI.out rfl ?_))
            go_round
            case rel => exact ⟨i + 1, i + 1, m + 1, by go_num, by go_num, by go_num, HSF.out⟩
            case measure => simp [intOf] <;> omega
end Go.Proofs.YtappfhjknihboaaGreatDoor
