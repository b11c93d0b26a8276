
/- codec.Num and Text; slices.Clone, Concat, Grow of bytes. -/
import Derived.Test.YticebanhccgglaaDoorRows
import Derived.Test.YticebanhccgglaaDoorPlain16
import Derived.Test.YticebanhccgglaaDoorKept
import Derived.Lib.AppendZeros
import Derived.Lib.SliceRun
namespace Go.Proofs.YticebanhccgglaaDoor
open Go.RowKit

theorem infoU8 : (Tryd.prog.info? 5).map (fun i => (i.zero, i.size, i.bytes)) = some (some (.int .u8 0), 1, 1) := by kernel_rfl
theorem zero10 : ∀ w, (zeroValue 50).run Tryd.prog w = .ok (.agg #[.int .u8 0, .int .u8 0, .int .u8 0, .int .u8 0, .int .u8 0, .int .u8 0, .int .u8 0, .int .u8 0, .int .u8 0, .int .u8 0]) w := fun w => by
  have h : (Tryd.prog.info? 50).bind (·.zero) = some (.agg #[.int .u8 0, .int .u8 0, .int .u8 0, .int .u8 0, .int .u8 0, .int .u8 0, .int .u8 0, .int .u8 0, .int .u8 0, .int .u8 0]) := by kernel_rfl
  obtain ⟨i, hi, hz⟩ := Option.bind_eq_some_iff.1 h
  simp [zeroValue, typeInfo, hi, hz]
theorem slice10 (g j : Nat) (hj : j ≤ 9) (w : World) : (Instr.sliceAt 50 (.pointer (some ⟨g, 0, none⟩)) (some (.int .i64 j)) none none).run Tryd.prog w = .ok (.slice (some ⟨g, j, none⟩) (10 - j) (10 - j)) w := by
  have e1 : Tryd.prog.arrayLen 50 = 10 := by kernel_rfl
  have e2 : Tryd.prog.elem 50 = 5 := by kernel_rfl
  have h := run_sliceAt_array_l (P := Tryd.prog) w 50 ⟨g, 0, none⟩ (by rw [e1, e2]; exact Tryd.underlying50) .i64 j (by omega) (by rw [e1]; omega)
  rw [h, e1, e2, Tryd.sizeOf5 w]
  simp only [Result.andThen, slicedAt, Int.toNat_natCast, Nat.mul_one]
  rw [if_neg (by omega), Addr.add_lit, Nat.zero_add]
theorem rd10 {w : World} {g j : Nat} {l : List Int} (hl : l.length = 10) (hj : j ≤ 9) (h : w.ownsRow g 50 1 (.slice (some ⟨g, 0, none⟩) 10 10) 10 (nums .u8 l)) :
    RdI w .u8 (some ⟨g, j, none⟩) (10 - j) (l.drop j) := by
  obtain ⟨A, c, e, hr⟩ := Rd.own h
  injection e with e1 e2 e3
  subst e1 e3
  have hr2 : RdI w .u8 (some ⟨g, 0, none⟩) 10 l := by
    show Rd w _ l.length 10 1 _
    rw [hl]
    exact hr
  have hc := hr2.cut j (10 - j) (10 - j) (by omega) (Nat.le_refl _) (by omega)
  rw [cutA, if_neg (by omega), Option.map_some, Addr.add_lit, Nat.zero_add, List.take_of_length_le (by rw [List.length_drop]; omega)] at hc
  exact hc

set_option maxHeartbeats 1000000 in
theorem CloneB_any (A : Option Addr) (c n : Nat) (l : List Int) (w : World) (hn : l.length = n) (hx : RdI w .u8 A c l) (hl : n ≤ 140737488355328) :
    Calls Tryd.prog 22 #[.slice A n c] w fun e w' => ∃ x, e = .returned x ∧ w'.ownsRow w.heap.size 5 1 x n (nums .u8 l) ∧ Below w.heap.size w w' := by
  have q22 : ∀ (w : World) (a : Option Addr) (n c n' c' : Nat), (binOp .eql 22 (.slice a n c) (.slice none n' c')).run Tryd.prog w = .ok (.bool a.isNone) w := fun w a n c n' c' => Lib.run_eql_slice_nil w _ _ a n c n' c' Tryd.underlying22
  subst hn
  cases A with
  | none =>
    have h1 := hx.nil rfl
    have h2 := hx.le
    have h3 : l.length = 0 := by omega
    obtain rfl : l = [] := List.eq_nil_of_length_eq_zero h3
    subst h1
    clear hx h2 h3
    go_enter Tryd.func22, Tryd.ntmps22
    go_wp2
    go_ret
    exact ⟨_, rfl, ⟨rfl, .inl ⟨rfl, rfl⟩⟩, Below.refl _ _⟩
  | some ad =>
    have HX := Lib.hid (hx.below (below_lit w (.cells #[] 5)))
    have HO : Hid ((w.alloc (.cells #[] 5)).ownsRow w.heap.size 5 1 (.slice (some ⟨w.heap.size, 0, none⟩) 0 0) 0 []) := Lib.hid (own_empty (heap_alloc_new _ _) (Nat.le_refl _))
    have HB := Lib.hid (below_lit w (.cells #[] 5))
    clear hx
    go_enter Tryd.func22, Tryd.ntmps22
    go_wp2_with (refine wp_app (w0 := w) rfl (.tmp 5) (.tmp 6) 22 5 _ 1 1 rfl Tryd.underlying22 infoU8 rfl (by decide) (by decide) w.heap.size _ 0 [] rfl HO.out (some ad) l.length c (nums .u8 l) rfl HX.out (nums_one _ _) (by omega) HB.out.size HB.out ?_)
    intro v1 w1 ho hb _
    have HO2 := Lib.hid ho
    have HB2 := Lib.hid hb
    clear ho hb
    go_wp2
    go_ret
    exact ⟨_, rfl, by simpa using HO2.out, HB2.out⟩

theorem left16 {n : Int} (h0 : -9223372036854775808 ≤ n) (h1 : n ≤ 9223372036854775807) :
    bits .xor .u64 (IntKind.u64.wrap (IntKind.u64.wrap n * 2)) (IntKind.u64.wrap (n / 9223372036854775808)) = (zz n : Nat) := by
  unfold zz
  by_cases h : 0 ≤ n
  · rw [if_pos h, show n / 9223372036854775808 = 0 by omega, show IntKind.u64.wrap 0 = 0 by decide, IntKind.wrap_u64, IntKind.wrap_u64, xor_0 _ (by omega) (by omega)]
    omega
  · rw [if_neg h, show n / 9223372036854775808 = -1 by omega, show IntKind.u64.wrap (-1) = 18446744073709551615 by decide, IntKind.wrap_u64, IntKind.wrap_u64, xor_1 _ (by omega) (by omega)]
    omega

set_option maxHeartbeats 1000000 in
set_option maxRecDepth 100000 in
theorem Num_any (n : Int) (w : World) (h0 : -9223372036854775808 ≤ n) (h1 : n ≤ 9223372036854775807) (l : List Int) (k : Nat) (hl : grp (zz n) = l) (hk : l.length = k) :
    Calls Tryd.prog 14 #[.int .i64 n] w fun e w' => ∃ x, e = .returned x ∧ w'.ownsRow w.heap.size 5 1 x k (nums .u8 l) ∧ Below w.heap.size w w' := by
  have hz := zero10
  have e1 := left16 h0 h1
  have hzl := zz_lt h0 h1
  generalize zz n = m0 at *
  have HO : Hid ((w.alloc (.cells #[.int .u8 0, .int .u8 0, .int .u8 0, .int .u8 0, .int .u8 0, .int .u8 0, .int .u8 0, .int .u8 0, .int .u8 0, .int .u8 ((m0 : Int) % 128)] 50)).ownsRow w.heap.size 50 1 (.slice (some ⟨w.heap.size, 0, none⟩) 10 10) 10 (nums .u8 [0, 0, 0, 0, 0, 0, 0, 0, 0, (m0 : Int) % 128])) := Lib.hid (own_block (w := w.alloc (.cells #[.int .u8 0, .int .u8 0, .int .u8 0, .int .u8 0, .int .u8 0, .int .u8 0, .int .u8 0, .int .u8 0, .int .u8 0, .int .u8 ((m0 : Int) % 128)] 50)) (base := w.heap.size) (cs := nums .u8 [0, 0, 0, 0, 0, 0, 0, 0, 0, (m0 : Int) % 128]) (heap_alloc_new _ _) (Nat.le_refl _) (by rw [nums_length]; exact (by decide : 10 ≤ maxLen)))
  have HB := Lib.hid ((Below.refl w.heap.size w).alloc (Nat.le_refl _) (.cells #[.int .u8 0, .int .u8 0, .int .u8 0, .int .u8 0, .int .u8 0, .int .u8 0, .int .u8 0, .int .u8 0, .int .u8 0, .int .u8 ((m0 : Int) % 128)] 50))
  have HG : Hid (grpD (m0 / 128) ++ List.drop 9 [0, 0, 0, 0, 0, 0, 0, 0, 0, (m0 : Int) % 128] = l) := Lib.hid (by rw [← hl]; rfl)
  have HL := Lib.hid (grp_len hzl)
  rw [hl] at HL
  have HK := Lib.hid hk
  clear hl hk
  go_enter Tryd.func14, Tryd.ntmps14
  go_wp2_with fail
  go_loopw [3, 5] (fun left i wr => ∃ (j m : Nat) (b : List Int), i = .int .i64 j ∧ left = .int .u64 m ∧ j ≤ 9 ∧ m < 18446744073709551616 ∧ Hid (b.length = 10) ∧ Hid (grpD m ++ b.drop j = l) ∧ Hid (wr.ownsRow w.heap.size 50 1 (.slice (some ⟨w.heap.size, 0, none⟩) 10 10) 10 (nums .u8 b)) ∧ Hid (Below w.heap.size w wr)) (fun left _ _ => (intOf left).toNat)
  case atStart => exact ⟨9, m0 / 128, [0, 0, 0, 0, 0, 0, 0, 0, 0, (m0 : Int) % 128], rfl, rfl, by omega, by omega, Lib.hid rfl, HG, HO, HB⟩
  case round =>
    clear HO HB HG
    obtain ⟨j, m, b, rfl, rfl, hj, hm2, HLL, HF, HO, HB⟩ := hrel
    by_cases hgo : 0 < m
    · have hj1 : 1 ≤ j := by
        have h4 := congrArg List.length HF.out
        rw [List.length_append, List.length_drop, HLL.out, grpD_pos hgo, List.length_append, List.length_singleton] at h4
        have := HL.out.2
        omega
      obtain ⟨i, rfl⟩ : ∃ i, j = i + 1 := ⟨j - 1, by omega⟩
      have ho := or128 (m % 128) (by omega)
      have hcell := HO.out.cellAt i (by omega)
      have hfr := HO.out.frozenAt i
      rw [nums_get (by rw [HLL.out]; omega)] at hcell
      generalize b.getD i 0 = old at hcell
      have hs := HO.out.stored i (.int .u8 ((m % 128 + 128 : Nat) : Int))
      rw [nums_set] at hs
      have HS := Lib.hid hs
      have HNX : Hid (grpD (m / 128) ++ (b.set i ((m % 128 + 128 : Nat) : Int)).drop i = l) := Lib.hid (by
        have e : (b.set i ((m % 128 + 128 : Nat) : Int)).drop i = ((m % 128 + 128 : Nat) : Int) :: b.drop (i + 1) := by
          rw [List.drop_eq_getElem_cons (by rw [List.length_set, HLL.out]; omega), List.drop_set_of_lt (by omega)]
          simp
        have h2 := HF.out
        rw [e]
        rw [grpD_pos hgo] at h2
        simpa using h2)
      have hd : ((m : Int)) % 128 = ((m % 128 : Nat) : Int) := rfl
      have hq : ((m : Int)) / 128 = ((m / 128 : Nat) : Int) := rfl
      have hlt : m / 128 < m := Nat.div_lt_self hgo (by decide)
      have hqm : m / 128 < 18446744073709551616 := by omega
      have hd36 : m % 128 < 128 := Nat.mod_lt _ (by decide)
      generalize m % 128 = d at *
      generalize m / 128 = q at *
      generalize ((d + 128 : Nat) : Int) = x at *
      clear hs HF
      go_wp2
      go_roundw
      case rel => exact ⟨i, q, b.set i x, by go_num, rfl, by omega, by omega, Lib.hid (by rw [List.length_set]; exact HLL.out), HNX, Lib.hid HS.out.1, Lib.hid (HB.out.setCell (p := ⟨w.heap.size, i, none⟩) (Nat.le_refl _) _)⟩
      case measure => simp [intOf] <;> omega
    · obtain rfl : m = 0 := by omega
      have hf := HF.out
      rw [grpD_0, List.nil_append] at hf
      have HR := Lib.hid (rd10 HLL.out hj HO.out)
      rw [hf] at HR
      have hsl := slice10 w.heap.size j hj
      have hlen : l.length = 10 - j := by rw [← hf, List.length_drop, HLL.out]
      have HLN := Lib.hid hlen
      clear hf hlen HF HO
      go_wp2_with fail
      refine (CloneB_any _ _ (10 - j) l _ HLN.out HR.out (by omega)).mono ?_
      rintro e w2 ⟨x, rfl, ho, hb⟩
      have HO := Lib.hid (own_mono ho HB.out.size)
      have HB := Lib.hid (below_two HB.out hb)
      have e9 : k = 10 - j := by rw [← HK.out, HLN.out]
      subst e9
      clear ho hb
      go_wp2
      go_ret
      exact ⟨_, rfl, HO.out, HB.out⟩
end Go.Proofs.YticebanhccgglaaDoor
