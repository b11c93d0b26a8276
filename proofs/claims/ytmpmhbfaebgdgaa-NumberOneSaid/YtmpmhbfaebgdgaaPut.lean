/- number.Put. -/
import Derived.Test.YtmpmhbfaebgdgaaPlain05
import Derived.Test.YtmpmhbfaebgdgaaProg
namespace Go.Proofs.Ytmpmhbfaebgdgaa
open Go.RowKit

theorem may_any (b : Int) (r : Bool) (w : World) (hr : putOk b = r) :
    Calls Try.prog 13 #[.int .i64 b] w fun e w' => e = .returned (.bool r) ∧ w = w' := by
  subst hr
  unfold putOk
  by_cases h1 : 2 ≤ b
  · go_enter Try.func13, Try.ntmps13
    go_wp2
    go_ret
    exact ⟨by simp [h1], rfl⟩
  · go_enter Try.func13, Try.ntmps13
    go_wp2
    go_ret
    exact ⟨by rw [decide_eq_false (by omega)]; rfl, rfl⟩

theorem fig_index {d : Nat} (h : d < 36) : ∀ hh : d < (⟨#[48, 49, 50, 51, 52, 53, 54, 55, 56, 57, 65, 66, 67, 68, 69, 70, 71, 72, 73, 74, 75, 76, 77, 78, 79, 80, 81, 82, 83, 84, 85, 86, 87, 88, 89, 90]⟩ : ByteArray).size, (((⟨#[48, 49, 50, 51, 52, 53, 54, 55, 56, 57, 65, 66, 67, 68, 69, 70, 71, 72, 73, 74, 75, 76, 77, 78, 79, 80, 81, 82, 83, 84, 85, 86, 87, 88, 89, 90]⟩ : ByteArray)[d]'hh).toNat : Int) = fig d := by
  intro hh
  have : ∀ d : Fin 36, ((([48, 49, 50, 51, 52, 53, 54, 55, 56, 57, 65, 66, 67, 68, 69, 70, 71, 72, 73, 74, 75, 76, 77, 78, 79, 80, 81, 82, 83, 84, 85, 86, 87, 88, 89, 90] : List UInt8)[d.1]'(by simp)).toNat : Int) = fig d.1 := by decide
  exact this ⟨d, h⟩

def bOf : Value → Nat
  | .bool true => 1
  | _ => 0
theorem zero65 : ∀ w, (zeroValue 32).run Try.prog w = .ok (.agg (nums .u8 (List.replicate 65 0)).toArray) w := fun w => by
  have h : (Try.prog.info? 32).bind (·.zero) = some (.agg (nums .u8 (List.replicate 65 0)).toArray) := by kernel_rfl
  obtain ⟨i, hi, hz⟩ := Option.bind_eq_some_iff.1 h
  simp [zeroValue, typeInfo, hi, hz]

theorem slice65 (g j : Nat) (hj : j ≤ 64) (w : World) : (Instr.sliceAt 32 (.pointer (some ⟨g, 0, none⟩)) (some (.int .i64 j)) none none).run Try.prog w = .ok (.slice (some ⟨g, j, none⟩) (65 - j) (65 - j)) w := by
  have e1 : Try.prog.arrayLen 32 = 65 := by kernel_rfl
  have e2 : Try.prog.elem 32 = 5 := by kernel_rfl
  have h := run_sliceAt_array_l (P := Try.prog) w 32 ⟨g, 0, none⟩ (by rw [e1, e2]; exact Try.underlying32) .i64 j (by omega) (by rw [e1]; omega)
  rw [h, e1, e2, Try.sizeOf5 w]
  simp only [Result.andThen, slicedAt, Int.toNat_natCast, Nat.mul_one]
  rw [if_neg (by omega), Addr.add_lit, Nat.zero_add]
/-- What an array's cut reads as, as a text. -/
theorem conv65 {w : World} {g j : Nat} {l : List Int} (hl : l.length = 65) (hj : j ≤ 64) (h : w.ownsRow g 32 1 (.slice (some ⟨g, 0, none⟩) 65 65) 65 (nums .u8 l)) :
    (convert 34 9 (.slice (some ⟨g, j, none⟩) (65 - j) (65 - j))).run Try.prog w = .ok (.string (strOf (l.drop j))) w := by
  obtain ⟨A, c, e, hr⟩ := Rd.own h
  injection e with e1 e2 e3
  subst e1 e3
  have hr2 : RdI w .u8 (some ⟨g, 0, none⟩) 65 l := by
    show Rd w _ l.length 65 1 _
    rw [hl]
    exact hr
  have hc := hr2.cut j (65 - j) (65 - j) (by omega) (Nat.le_refl _) (by omega)
  rw [cutA, if_neg (by omega), Option.map_some, Addr.add_lit, Nat.zero_add, List.take_of_length_le (by rw [List.length_drop]; omega)] at hc
  have := conv_rd (P := Try.prog) Try.underlying34 Try.underlying5 Try.underlying9 hc
  rw [List.length_drop, hl] at this
  exact this

set_option maxHeartbeats 1000000 in
set_option maxRecDepth 100000 in
theorem Put_nat (s : Bool) (m0 b : Nat) (w : World) (hb0 : 2 ≤ b) (hb1 : b ≤ 36) (h0 : m0 ≤ 9223372036854775808) (hs : s = true → 0 < m0) (hs2 : s = false → m0 ≤ 9223372036854775807) :
    Calls Try.prog 9 #[.int .i64 (if s then -(m0 : Int) else m0), .int .i64 b] w fun e w' => e = .returned (.tuple #[.string (strOf ((if s then [45] else []) ++ digs b m0)), .bool true]) ∧ Below w.heap.size w w' := by
  have hz := zero65
  have hbk : putOk b = true := by unfold putOk; simp; omega
  have HBK := Lib.hid hbk
  have HO : Hid ((w.alloc (.cells (nums .u8 (List.replicate 65 0)).toArray 32)).ownsRow w.heap.size 32 1 (.slice (some ⟨w.heap.size, 0, none⟩) 65 65) 65 (nums .u8 (List.replicate 65 0))) := Lib.hid (by
    have := own_block (w := w.alloc (.cells (nums .u8 (List.replicate 65 0)).toArray 32)) (base := w.heap.size) (heap_alloc_new _ _) (Nat.le_refl _) (by rw [nums_length]; decide)
    simpa [nums_length] using this)
  have HB := Lib.hid ((Below.refl w.heap.size w).alloc (Nat.le_refl _) (.cells (nums .u8 (List.replicate 65 0)).toArray 32))
  generalize hz0 : (nums .u8 (List.replicate 65 0)).toArray = Z at hz HO HB
  clear hbk hz0
  have hl64 := digs_len (b := b) (m := m0) hb0 (by omega)
  have HL64 := Lib.hid hl64
  have HB2 := Lib.hid hb0
  have b1 : IntKind.u64.wrap (b : Int) = b := IntWalk.u64_in _ (by omega)
  clear hl64
  cases s with
  | true =>
    have hm := hs rfl
    simp only [if_true]
    clear hs hs2
    have e1 : IntKind.u64.wrap (-(m0 : Int)) = 18446744073709551616 - m0 := by rw [IntKind.wrap_u64]; omega
    have e2 : IntKind.u64.wrap (-(18446744073709551616 - (m0 : Int))) = m0 := by rw [IntKind.wrap_u64]; omega
    go_enter Try.func9, Try.ntmps9
    go_wp2_with fail
    refine (may_any b true w HBK.out).mono ?_
    rintro e w' ⟨rfl, rfl⟩
    go_wp2_with fail
    go_loopw [7, 8, 9] (fun i left first wr => ∃ (j m : Nat) (f : Bool) (l : List Int), i = .int .i64 j ∧ left = .int .u64 m ∧ first = .bool f ∧ j ≤ 65 ∧ m ≤ 9223372036854775808 ∧ Hid (l.length = 65) ∧ Hid ((f = true ∧ m = m0 ∧ j = 65) ∨ (f = false ∧ digD b m ++ l.drop j = digs b m0)) ∧ Hid (wr.ownsRow w.heap.size 32 1 (.slice (some ⟨w.heap.size, 0, none⟩) 65 65) 65 (nums .u8 l)) ∧ Hid (Below w.heap.size w wr)) (fun _ left first _ => (intOf left).toNat + bOf first)
    case atStart => exact ⟨65, m0, true, List.replicate 65 0, rfl, rfl, rfl, by omega, by omega, Lib.hid (by simp), Lib.hid (.inl ⟨rfl, rfl, rfl⟩), HO, HB⟩
    case round =>
      clear HO HB
      obtain ⟨j, m, f, l, rfl, rfl, rfl, hj, hm2, HLL, HF, HO, HB⟩ := hrel
      by_cases hgo : f = true ∨ 0 < m
      · have hj1 : 1 ≤ j := by
          rcases HF.out with ⟨_, _, h⟩ | ⟨h1, h2⟩
          · omega
          · have h3 : 0 < m := by rcases hgo with h | h; (rw [h1] at h; cases h); exact h
            have h4 := congrArg List.length h2
            rw [List.length_append, List.length_drop, HLL.out, digD_pos HB2.out h3, List.length_append, List.length_singleton] at h4
            have := HL64.out.2
            omega
        obtain ⟨i, rfl⟩ : ∃ i, j = i + 1 := ⟨j - 1, by omega⟩
        have hd : ((m : Int)).tmod (b : Int) = ((m % b : Nat) : Int) := by rw [Int.tmod_eq_emod_of_nonneg (by omega)]; rfl
        have hq : ((m : Int)).tdiv (b : Int) = ((m / b : Nat) : Int) := by rw [Int.tdiv_eq_ediv_of_nonneg (by omega)]; rfl
        have hd36 : m % b < 36 := by have := Nat.mod_lt m (show 0 < b by omega); omega
        have hqm : m / b ≤ 9223372036854775808 := Nat.le_trans (Nat.div_le_self _ _) hm2
        have hfi := fig_index hd36
        have hcell := HO.out.cellAt i (by omega)
        have hfr := HO.out.frozenAt i
        rw [nums_get (by rw [HLL.out]; omega)] at hcell
        generalize l.getD i 0 = old at hcell
        have hs := HO.out.stored i (.int .u8 (fig (m % b)))
        rw [nums_set] at hs
        have HS := Lib.hid hs
        have HNX : Hid (digD b (m / b) ++ (l.set i (fig (m % b))).drop i = digs b m0) := Lib.hid (by
          have e : (l.set i (fig (m % b))).drop i = fig (m % b) :: l.drop (i + 1) := by
            rw [List.drop_eq_getElem_cons (by rw [List.length_set, HLL.out]; omega), List.drop_set_of_lt (by omega)]
            simp
          rw [e]
          rcases HF.out with ⟨_, h1, h2⟩ | ⟨h1, h2⟩
          · rw [h1, digs_eq HB2.out, List.drop_eq_nil_of_le (by rw [HLL.out]; omega)]
          · have h3 : 0 < m := by rcases hgo with h | h; (rw [h1] at h; cases h); exact h
            rw [digD_pos HB2.out h3] at h2
            simpa using h2)
        have hdec : m / b + 0 < m + bOf (.bool f) := by
          rcases hgo with h | h
          · subst h
            have := Nat.div_le_self m b
            simp only [bOf]
            omega
          · have := Nat.div_lt_self h hb0
            omega
        have HDEC := Lib.hid hdec
        generalize m % b = d at *
        generalize m / b = q at *
        generalize fig d = x at *
        clear hs hdec
        cases f with
        | true =>
          go_wp2
          exact ⟨⟨i, q, false, l.set i x, rfl, rfl, rfl, by omega, by omega, Lib.hid (by rw [List.length_set]; exact HLL.out), Lib.hid (.inr ⟨rfl, HNX.out⟩), Lib.hid HS.out.1, Lib.hid (HB.out.setCell (p := ⟨w.heap.size, i, none⟩) (Nat.le_refl _) _)⟩, by have := HDEC.out; simp only [bOf, intOf] at this ⊢; omega⟩
        | false =>
          have hm3 : 0 < m := by rcases hgo with h | h; (cases h); exact h
          go_wp2
          exact ⟨⟨i, q, false, l.set i x, rfl, rfl, rfl, by omega, by omega, Lib.hid (by rw [List.length_set]; exact HLL.out), Lib.hid (.inr ⟨rfl, HNX.out⟩), Lib.hid HS.out.1, Lib.hid (HB.out.setCell (p := ⟨w.heap.size, i, none⟩) (Nat.le_refl _) _)⟩, by have := HDEC.out; simp only [bOf, intOf] at this ⊢; omega⟩
      · have hf0 : f = false := by cases f; rfl; exact absurd (.inl rfl) hgo
        subst hf0
        obtain rfl : m = 0 := by rcases Nat.eq_zero_or_pos m with h | h; exact h; exact absurd (.inr h) hgo
        have hdr : l.drop j = digs b m0 := by
          rcases HF.out with ⟨h, _⟩ | ⟨_, h⟩
          · cases h
          · rw [digD_0] at h
            simpa using h
        have hjl : 65 - j = (digs b m0).length := by rw [← hdr, List.length_drop, HLL.out]
        have hj1 : 1 ≤ j ∧ j ≤ 64 := by have := HL64.out; omega
        have hj2 := hj1.1
        have hj3 := hj1.2
        have HDR := Lib.hid hdr
        clear hdr hjl hgo HF hj1
        obtain ⟨i, rfl⟩ : ∃ i, j = i + 1 := ⟨j - 1, by omega⟩
        have hcell := HO.out.cellAt i (by omega)
        have hfr := HO.out.frozenAt i
        rw [nums_get (by rw [HLL.out]; omega)] at hcell
        generalize l.getD i 0 = old at hcell
        have hs := HO.out.stored i (.int .u8 45)
        rw [nums_set] at hs
        have HS := Lib.hid hs.1
        clear hs
        have hsl := slice65 w.heap.size i (by omega)
        have hcv := conv65 (j := i) (by rw [List.length_set]; exact HLL.out) (by omega) HS.out
        have hlst : (l.set i 45).drop i = [45] ++ digs b m0 := by
          rw [List.drop_eq_getElem_cons (by rw [List.length_set, HLL.out]; omega), List.drop_set_of_lt (by omega), HDR.out]
          simp
        rw [hlst] at hcv
        clear hlst
        have HBE := Lib.hid (HB.out.setCell (p := ⟨w.heap.size, i, none⟩) (Nat.le_refl _) (.int .u8 45))
        go_wp2
        go_ret2
        exact ⟨rfl, HBE.out⟩
  | false =>
    have hm := hs2 rfl
    simp only [Bool.false_eq_true, if_false]
    clear hs hs2
    have e1 : IntKind.u64.wrap (m0 : Int) = m0 := IntWalk.u64_in _ (by omega)
    go_enter Try.func9, Try.ntmps9
    go_wp2_with fail
    refine (may_any b true w HBK.out).mono ?_
    rintro e w' ⟨rfl, rfl⟩
    go_wp2_with fail
    go_loopw [7, 8, 9] (fun i left first wr => ∃ (j m : Nat) (f : Bool) (l : List Int), i = .int .i64 j ∧ left = .int .u64 m ∧ first = .bool f ∧ j ≤ 65 ∧ m ≤ 9223372036854775808 ∧ Hid (l.length = 65) ∧ Hid ((f = true ∧ m = m0 ∧ j = 65) ∨ (f = false ∧ digD b m ++ l.drop j = digs b m0)) ∧ Hid (wr.ownsRow w.heap.size 32 1 (.slice (some ⟨w.heap.size, 0, none⟩) 65 65) 65 (nums .u8 l)) ∧ Hid (Below w.heap.size w wr)) (fun _ left first _ => (intOf left).toNat + bOf first)
    case atStart => exact ⟨65, m0, true, List.replicate 65 0, rfl, rfl, rfl, by omega, by omega, Lib.hid (by simp), Lib.hid (.inl ⟨rfl, rfl, rfl⟩), HO, HB⟩
    case round =>
      clear HO HB
      obtain ⟨j, m, f, l, rfl, rfl, rfl, hj, hm2, HLL, HF, HO, HB⟩ := hrel
      by_cases hgo : f = true ∨ 0 < m
      · have hj1 : 1 ≤ j := by
          rcases HF.out with ⟨_, _, h⟩ | ⟨h1, h2⟩
          · omega
          · have h3 : 0 < m := by rcases hgo with h | h; (rw [h1] at h; cases h); exact h
            have h4 := congrArg List.length h2
            rw [List.length_append, List.length_drop, HLL.out, digD_pos HB2.out h3, List.length_append, List.length_singleton] at h4
            have := HL64.out.2
            omega
        obtain ⟨i, rfl⟩ : ∃ i, j = i + 1 := ⟨j - 1, by omega⟩
        have hd : ((m : Int)).tmod (b : Int) = ((m % b : Nat) : Int) := by rw [Int.tmod_eq_emod_of_nonneg (by omega)]; rfl
        have hq : ((m : Int)).tdiv (b : Int) = ((m / b : Nat) : Int) := by rw [Int.tdiv_eq_ediv_of_nonneg (by omega)]; rfl
        have hd36 : m % b < 36 := by have := Nat.mod_lt m (show 0 < b by omega); omega
        have hqm : m / b ≤ 9223372036854775808 := Nat.le_trans (Nat.div_le_self _ _) hm2
        have hfi := fig_index hd36
        have hcell := HO.out.cellAt i (by omega)
        have hfr := HO.out.frozenAt i
        rw [nums_get (by rw [HLL.out]; omega)] at hcell
        generalize l.getD i 0 = old at hcell
        have hs := HO.out.stored i (.int .u8 (fig (m % b)))
        rw [nums_set] at hs
        have HS := Lib.hid hs
        have HNX : Hid (digD b (m / b) ++ (l.set i (fig (m % b))).drop i = digs b m0) := Lib.hid (by
          have e : (l.set i (fig (m % b))).drop i = fig (m % b) :: l.drop (i + 1) := by
            rw [List.drop_eq_getElem_cons (by rw [List.length_set, HLL.out]; omega), List.drop_set_of_lt (by omega)]
            simp
          rw [e]
          rcases HF.out with ⟨_, h1, h2⟩ | ⟨h1, h2⟩
          · rw [h1, digs_eq HB2.out, List.drop_eq_nil_of_le (by rw [HLL.out]; omega)]
          · have h3 : 0 < m := by rcases hgo with h | h; (rw [h1] at h; cases h); exact h
            rw [digD_pos HB2.out h3] at h2
            simpa using h2)
        have hdec : m / b + 0 < m + bOf (.bool f) := by
          rcases hgo with h | h
          · subst h
            have := Nat.div_le_self m b
            simp only [bOf]
            omega
          · have := Nat.div_lt_self h hb0
            omega
        have HDEC := Lib.hid hdec
        generalize m % b = d at *
        generalize m / b = q at *
        generalize fig d = x at *
        clear hs hdec
        cases f with
        | true =>
          go_wp2
          exact ⟨⟨i, q, false, l.set i x, rfl, rfl, rfl, by omega, by omega, Lib.hid (by rw [List.length_set]; exact HLL.out), Lib.hid (.inr ⟨rfl, HNX.out⟩), Lib.hid HS.out.1, Lib.hid (HB.out.setCell (p := ⟨w.heap.size, i, none⟩) (Nat.le_refl _) _)⟩, by have := HDEC.out; simp only [bOf, intOf] at this ⊢; omega⟩
        | false =>
          have hm3 : 0 < m := by rcases hgo with h | h; (cases h); exact h
          go_wp2
          exact ⟨⟨i, q, false, l.set i x, rfl, rfl, rfl, by omega, by omega, Lib.hid (by rw [List.length_set]; exact HLL.out), Lib.hid (.inr ⟨rfl, HNX.out⟩), Lib.hid HS.out.1, Lib.hid (HB.out.setCell (p := ⟨w.heap.size, i, none⟩) (Nat.le_refl _) _)⟩, by have := HDEC.out; simp only [bOf, intOf] at this ⊢; omega⟩
      · have hf0 : f = false := by cases f; rfl; exact absurd (.inl rfl) hgo
        subst hf0
        obtain rfl : m = 0 := by rcases Nat.eq_zero_or_pos m with h | h; exact h; exact absurd (.inr h) hgo
        have hdr : l.drop j = digs b m0 := by
          rcases HF.out with ⟨h, _⟩ | ⟨_, h⟩
          · cases h
          · rw [digD_0] at h
            simpa using h
        have hjl : 65 - j = (digs b m0).length := by rw [← hdr, List.length_drop, HLL.out]
        have hj1 : 1 ≤ j ∧ j ≤ 64 := by have := HL64.out; omega
        have hj2 := hj1.1
        have hj3 := hj1.2
        have HDR := Lib.hid hdr
        clear hdr hjl hgo HF hj1
        have hsl := slice65 w.heap.size j (by omega)
        have hcv := conv65 (j := j) HLL.out (by omega) HO.out
        rw [HDR.out] at hcv
        go_wp2
        go_ret2
        exact ⟨rfl, HB.out⟩

theorem Put_is (n b : Int) (w : World) (s : ByteArray) (r : Bool) (hr : putOk b = r) (hs : putS n b = s) (h0 : -9223372036854775808 ≤ n) (h1 : n ≤ 9223372036854775807) :
    Calls Try.prog 9 #[.int .i64 n, .int .i64 b] w fun e w' => e = .returned (.tuple #[.string s, .bool r]) ∧ Below w.heap.size w w' := by
  subst hs
  cases r with
  | false =>
    have hz := hr
    rw [putS, if_neg (by rw [hz]; decide)]
    have HR := Lib.hid hr
    clear hr hz
    go_enter Try.func9, Try.ntmps9
    go_wp2_with fail
    refine (may_any b false w HR.out).mono ?_
    rintro e w' ⟨rfl, rfl⟩
    go_wp2
    go_ret2
    exact ⟨rfl, Below.refl _ _⟩
  | true =>
    rw [putS, if_pos hr]
    have hb : 2 ≤ b ∧ b ≤ 36 := by simpa [putOk] using hr
    obtain ⟨b, rfl⟩ := Int.eq_ofNat_of_zero_le (show 0 ≤ b by omega)
    rw [Int.toNat_natCast, putL]
    by_cases hn : n < 0
    · have := Put_nat true n.natAbs b w (by omega) (by omega) (by omega) (by omega) (by intro h; cases h)
      rw [if_pos rfl, if_pos rfl, show -((n.natAbs : Nat) : Int) = n by omega] at this
      rw [if_pos hn]
      exact this
    · have := Put_nat false n.natAbs b w (by omega) (by omega) (by omega) (by intro h; cases h) (by omega)
      rw [if_neg (by decide), if_neg (by decide), show ((n.natAbs : Nat) : Int) = n by omega] at this
      rw [if_neg hn]
      exact this
end Go.Proofs.Ytmpmhbfaebgdgaa
