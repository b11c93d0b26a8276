
/- (*codec.Reader).Num. -/
import Derived.Test.YticebanhccgglaaDoorRdr16
import Derived.Test.YticebanhccgglaaDoorBits
import Derived.Defers
namespace Go.Proofs.YticebanhccgglaaDoor
open Go.RowKit

theorem endsL_bad (l : List Int) : (endsL l).2 ≠ 0 → (endsL l).1 = 0 := by
  unfold endsL
  split
  · exact fun _ => rfl
  · split
    · exact fun _ => rfl
    · split
      · exact fun _ => rfl
      · split
        · exact fun _ => rfl
        · exact fun h => absurd rfl h
theorem or7 (x c : Int) (h0 : 0 ≤ c) (h1 : c < 128) : bits .or .u64 (IntKind.u64.wrap (x * 128)) c = (x * 128 + c) % 18446744073709551616 := by
  show IntKind.u64.wrap ((BitVec.ofInt 64 (IntKind.u64.wrap (x * 128)) ||| BitVec.ofInt 64 c).toNat : Nat) = _
  rw [BitVec.toNat_or, BitVec.toNat_ofInt, BitVec.toNat_ofInt, IntKind.wrap_u64, IntKind.wrap_u64]
  show (((x * 128 % 18446744073709551616 % 18446744073709551616).toNat ||| (c % 18446744073709551616).toNat : Nat) : Int) % _ = _
  rw [show c % 18446744073709551616 = c by omega, nat_join 7]
  · omega
  · omega
  · omega
theorem and1 (x : Int) (h0 : 0 ≤ x) (h1 : x < 18446744073709551616) : bits .and .u64 x 1 = x % 2 := by
  show IntKind.u64.wrap ((BitVec.ofInt 64 x &&& BitVec.ofInt 64 1).toNat : Nat) = _
  rw [BitVec.toNat_and, BitVec.toNat_ofInt, BitVec.toNat_ofInt, IntKind.wrap_u64]
  show (((x % 18446744073709551616).toNat &&& 1 : Nat) : Int) % _ = _
  rw [Nat.and_one_is_mod]
  omega
theorem unz_prog (x : Int) (h0 : 0 ≤ x) (h1 : x < 18446744073709551616) : wrap64 (bits .xor .u64 (x / 2) (IntKind.u64.wrap (-(bits .and .u64 x 1)))) = unz x := by
  rw [and1 x h0 h1]
  unfold unz
  by_cases h : x % 2 = 1
  · rw [h, if_pos rfl, show IntKind.u64.wrap (-1) = 18446744073709551615 by decide, xor_1 _ (by omega) (by omega)]
    unfold wrap64
    omega
  · rw [show x % 2 = 0 by omega, if_neg (by decide), show IntKind.u64.wrap (-0) = 0 by decide, xor_0 _ (by omega) (by omega)]
    unfold wrap64
    omega
theorem unz_range (x : Int) (h0 : 0 ≤ x) (h1 : x < 18446744073709551616) : -9223372036854775808 ≤ unz x ∧ unz x ≤ 9223372036854775807 := by
  unfold unz
  split <;> omega

theorem close_any (g : Nat) (e old n : Int) (pe pr pn : Addr) (u : FrameMode) (w : World) (h1 : w.cell? pr = some (.pointer (some ⟨g, 0, none⟩))) (h2 : w.cell? pe = some (.int .i64 e)) (h3 : w.cell? ⟨g, 1, none⟩ = some (.int .i64 old)) (h4 : w.frozen? ⟨g, 1, none⟩ = false)
    (h5 : (w.setCell ⟨g, 1, none⟩ (.int .i64 e)).cell? pe = some (.int .i64 e)) (h6 : (w.setCell ⟨g, 1, none⟩ (.int .i64 e)).cell? pn = some (.int .i64 n)) (h7 : w.frozen? pn = false) :
    CallsD Tryd.prog 35 #[.pointer (some pe), .pointer (some pr), .pointer (some pn)] u w fun r u' w' => u' = u ∧ (r = .returned (.tuple #[]) ∧ w' = if e = 0 then w.setCell ⟨g, 1, none⟩ (.int .i64 e) else (w.setCell ⟨g, 1, none⟩ (.int .i64 e)).setCell pn (.int .i64 0)) := by
  by_cases he : e = 0
  · rw [if_pos he]
    have hb : (e != 0) = false := by simpa using he
    clear he
    go_enter_d Tryd.func35, Tryd.ntmps35
    go_wp2
    go_end0
    exact ⟨rfl, rfl⟩
  · rw [if_neg he]
    have hb : (e != 0) = true := by simpa using he
    go_enter_d Tryd.func35, Tryd.ntmps35
    go_wp2
    go_end0
    exact ⟨rfl, rfl⟩

/-! ### Slices of bytes -/
theorem sl_h (A : Option Addr) (n c j : Nat) (w : World) (h : j ≤ c) : (Instr.sliceAt 22 (.slice A n c) none (some (.int .i64 j)) none).run Tryd.prog w = .ok (.slice A j c) w := by
  have e2 : Tryd.prog.elem 22 = 5 := by kernel_rfl
  have ht : Tryd.prog.underlying 22 = some (.slice (Tryd.prog.elem 22)) := by rw [e2]; exact Tryd.underlying22
  rw [run_sliceAt_slice _ _ _ _ _ _ ht, run_slice_h _ _ _ _ _ ht .i64 j (by omega) (by omega), e2, Tryd.sizeOf5 w]
  simp only [Result.andThen, sliced, Int.toNat_natCast, Nat.zero_mul, Nat.sub_zero]
  congr 2
  cases A <;> simp [Addr.add]
theorem sl_l (A : Option Addr) (n c i : Nat) (w : World) (h : i ≤ n) (h2 : n ≤ c) : (Instr.sliceAt 22 (.slice A n c) (some (.int .i64 i)) none none).run Tryd.prog w = .ok (.slice (cutA A i (c - i)) (n - i) (c - i)) w := by
  have e2 : Tryd.prog.elem 22 = 5 := by kernel_rfl
  have ht : Tryd.prog.underlying 22 = some (.slice (Tryd.prog.elem 22)) := by rw [e2]; exact Tryd.underlying22
  rw [run_sliceAt_slice _ _ _ _ _ _ ht, run_slice_l _ _ _ _ _ ht .i64 i (by omega) (by omega), e2, Tryd.sizeOf5 w]
  simp only [Result.andThen, sliced, Int.toNat_natCast, Nat.mul_one, cutA]
  by_cases hc : c = i
  · rw [if_pos hc, if_pos (by omega)]
  · rw [if_neg hc, if_neg (by omega)]
theorem sl_hm (A : Option Addr) (n c j : Nat) (w : World) (h : j ≤ c) : (Instr.sliceAt 22 (.slice A n c) none (some (.int .i64 j)) (some (.int .i64 j))).run Tryd.prog w = .ok (.slice A j j) w := by
  have e2 : Tryd.prog.elem 22 = 5 := by kernel_rfl
  have ht : Tryd.prog.underlying 22 = some (.slice (Tryd.prog.elem 22)) := by rw [e2]; exact Tryd.underlying22
  rw [run_sliceAt_slice _ _ _ _ _ _ ht, run_slice_hm _ _ _ _ _ ht .i64 .i64 j j (by omega) (by omega) (by omega), e2, Tryd.sizeOf5 w]
  simp only [Result.andThen, sliced, Int.toNat_natCast, Nat.zero_mul, Nat.sub_zero]
  congr 2
  cases A <;> simp [Addr.add]

/-- Num's three variables. -/
abbrev W3 (w : World) (g : Nat) (n e : Int) : World := ((w.alloc (.cells #[.pointer (some ⟨g, 0, none⟩)] 52)).alloc (.cells #[.int .i64 n] 3)).alloc (.cells #[.int .i64 e] 26)
theorem W3_below (w : World) (g : Nat) (n e : Int) : Below w.heap.size w (W3 w g n e) := below_two (below_two (below_lit w _) (below_lit _ _)) (below_lit _ _)
structure Vars (w : World) (N g : Nat) (n e : Int) : Prop where
  r : w.cell? ⟨N, 0, none⟩ = some (.pointer (some ⟨g, 0, none⟩))
  n : w.cell? ⟨N + 1, 0, none⟩ = some (.int .i64 n)
  e : w.cell? ⟨N + 1 + 1, 0, none⟩ = some (.int .i64 e)
  f : w.frozen? ⟨N + 1, 0, none⟩ = false
theorem W3_vars (w : World) (g : Nat) (n e : Int) : Vars (W3 w g n e) w.heap.size g n e := ⟨by go_simp, by go_simp, by go_simp, by go_simp⟩

theorem Vars.drew {w : World} {N g : Nat} {n e : Int} (h : Vars w N g n e) : Vars w.drew N g n e := ⟨h.r, h.n, h.e, h.f⟩
theorem Vars.set0 {w : World} {N g : Nat} {n e : Int} (h : Vars w N g n e) (hg : g < N) (u : Value) : Vars (w.setCell ⟨g, 0, none⟩ u).drew N g n e :=
  Vars.drew ⟨by rw [World.cell?_setCell_other _ _ _ _ (by simp <;> omega)]; exact h.r, by rw [World.cell?_setCell_other _ _ _ _ (by simp <;> omega)]; exact h.n, by rw [World.cell?_setCell_other _ _ _ _ (by simp <;> omega)]; exact h.e, by simpa using h.f⟩
theorem Vars.setE {w : World} {N g : Nat} {n e : Int} (h : Vars w N g n e) (hg : g < N) (u : Value) : Vars (w.setCell ⟨g, 1, none⟩ u) N g n e :=
  ⟨by rw [World.cell?_setCell_other _ _ _ _ (by simp <;> omega)]; exact h.r, by rw [World.cell?_setCell_other _ _ _ _ (by simp <;> omega)]; exact h.n, by rw [World.cell?_setCell_other _ _ _ _ (by simp <;> omega)]; exact h.e, by simpa using h.f⟩
theorem Vars.setN {w : World} {N g : Nat} {n e : Int} (h : Vars w N g n e) (x : Int) : Vars (w.setCell ⟨N + 1, 0, none⟩ (.int .i64 x)) N g x e :=
  ⟨by rw [World.cell?_setCell_other _ _ _ _ (by simp)]; exact h.r, World.cell?_setCell_same _ _ _ h.n, by rw [World.cell?_setCell_other _ _ _ _ (by simp)]; exact h.e, by simpa using h.f⟩
theorem drewC {w : World} {g : Nat} {v : Value} {e : Int} (h : RdrC w g v e) : RdrC w.drew g v e := ⟨h.c0, h.c1, h.f0, h.f1⟩
theorem Only.drew {g : Nat} {a w : World} (h : Only g a w) : Only g a w.drew := ⟨h.os, h.tape, h.output, h.size, h.block⟩
theorem close_world {w w5 w6 : World} {g : Nat} {u e : Int} {v : Value} (hg : g < w.heap.size) (HX : Vars w5 w.heap.size g u e) (HC : RdrC w5 g v 0) (HO : Only g w w5)
    (h6 : w6 = if e = 0 then w5.setCell ⟨g, 1, none⟩ (.int .i64 e) else (w5.setCell ⟨g, 1, none⟩ (.int .i64 e)).setCell ⟨w.heap.size + 1, 0, none⟩ (.int .i64 0)) :
    w6.cell? ⟨w.heap.size + 1, 0, none⟩ = some (.int .i64 (if e = 0 then u else 0)) ∧ RdrC w6 g v e ∧ Only g w w6 := by
  by_cases he : e = 0
  · rw [if_pos he] at h6 ⊢
    subst h6
    exact ⟨(HX.setE hg _).n, HC.set1 e, HO.setCell 1 _⟩
  · rw [if_neg he] at h6 ⊢
    subst h6
    exact ⟨World.cell?_setCell_same _ _ _ (HX.setE hg _).n, (HC.set1 e).same (Below.heap_setCell _ _ _ _ (by show g ≠ w.heap.size + 1; omega)), (HO.setCell 1 _).setNew (by show w.heap.size ≤ w.heap.size + 1; omega) _⟩
theorem rdr_cut {w : World} {g : Nat} {A : Option Addr} {c m : Nat} {l : List Int} {e : Int} (hb : ∀ x ∈ l, 0 ≤ x ∧ x < 256) (h : RdrC w g (.slice (cutA A m (c - m)) (l.length - m) (c - m)) e) (hd : Dat w g A c l) (hm : m ≤ l.length) (hc : l.length ≤ c) (_ : m ≤ c) : Rdr w g (cutA A m (c - m)) (c - m) (l.drop m) e := by
  have := hd.cut m (l.length - m) (c - m) (by omega) (by omega) (by omega)
  rw [List.take_of_length_le (by rw [List.length_drop]; exact Nat.le_refl _)] at this
  exact ⟨by rw [List.length_drop]; exact h, this, fun x hx => hb x (List.mem_of_mem_drop hx)⟩

/-- A reader, behind a read: and its bytes lie where they lay. -/
structure RdrK (w w' : World) (g : Nat) (A : Option Addr) (c : Nat) (l : List Int) (A2 : Option Addr) (c2 : Nat) (l2 : List Int) (e2 : Int) : Prop where
  r : Rdr w' g A2 c2 l2 e2
  k : ∀ g2, Dat w g2 A c l → Dat w' g2 A2 c2 l2
theorem cut_dat {w w' : World} {g2 : Nat} {A : Option Addr} {c m : Nat} {l : List Int} (hd : Dat w g2 A c l) (hr : RdI w' .u8 (cutA A m (c - m)) (c - m) (l.drop m)) (hm : m ≤ l.length) (hc : l.length ≤ c) : Dat w' g2 (cutA A m (c - m)) (c - m) (l.drop m) := by
  have := hd.cut m (l.length - m) (c - m) (by omega) (by omega) (by omega)
  rw [List.take_of_length_le (by rw [List.length_drop]; exact Nat.le_refl _)] at this
  exact ⟨hr, this.2⟩
theorem RdrK.cut {w w' : World} {g : Nat} {A : Option Addr} {c m : Nat} {l : List Int} {e : Int} (h : Rdr w' g (cutA A m (c - m)) (c - m) (l.drop m) e) (hm : m ≤ l.length) (hc : l.length ≤ c) : RdrK w w' g A c l (cutA A m (c - m)) (c - m) (l.drop m) e :=
  ⟨h, fun _ hd => cut_dat hd h.d.1 hm hc⟩

set_option maxHeartbeats 1000000 in
set_option maxRecDepth 100000 in
theorem RdNum_dat (g : Nat) (A : Option Addr) (c : Nat) (l : List Int) (e lo hi : Int) (w : World) (h : Rdr w g A c l e) (n : Int) (l2 : List Int) (e2 : Int) (hr : readS l e lo hi = (n, l2, e2)) (hlen : l.length ≤ 1000000) :
    Calls Tryd.prog 25 #[.pointer (some ⟨g, 0, none⟩), .int .i64 lo, .int .i64 hi] w fun r w' => r = .returned (.int .i64 n) ∧ ∃ A2 c2, RdrK w w' g A c l A2 c2 l2 e2 ∧ Only g w w' := by
  have hmf : ∀ (fn : Fn) (first cap : Array Value) (w : World), (Instr.makeFunc fn first cap).run Tryd.prog w = .ok (.func fn first cap) w := fun _ _ _ _ => rfl
  have hg := h.st.lt
  by_cases he : e = 0
  · subst he
    obtain ⟨m, er, hm⟩ : ∃ m er, endsL l = (m, er) := ⟨_, _, rfl⟩
    have hml := endsL_le l
    rw [hm] at hml
    have H := Lib.hid h
    have HM := Lib.hid hm
    clear h hm
    have hcp := H.out.d.1.le
    have hcm := H.out.d.1.cap
    unfold maxLen at hcm
    have hs1 := fun w => sl_h A l.length c m w (by omega)
    have hs2 := fun w => sl_l A l.length c m w (by omega) hcp
    go_enter_defers Tryd.func25, Tryd.ntmps25
    go_wp2_with fail
    have H2 := Lib.hid (H.out.below (below_two (below_lit w (.cells #[.pointer (some ⟨g, 0, none⟩)] 52)) (below_lit _ (.cells #[.int .i64 0] 3))))
    refine (Err_any g 0 _ H2.out.st.c1).mono ?_
    rintro e w' ⟨rfl, rfl⟩
    go_wp2_with fail
    refine (ends_any g A c l 0 _ H2.out m er HM.out hlen).mono ?_
    rintro e w' ⟨rfl, rfl⟩
    have H3 := Lib.hid (H.out.below (W3_below w g 0 er))
    have h30 := H3.out.st.c0
    go_wp2_with fail
    go_loop [9, 28] (fun x i => ∃ k : Nat, i = .int .i64 k ∧ k ≤ m ∧ Hid (x = .int .u64 (valL (l.take k)))) (fun _ i => m - (intOf i).toNat)
    case atStart => exact ⟨0, rfl, by omega, Lib.hid rfl⟩
    case round =>
      obtain ⟨k, rfl, hk, HV⟩ := hrel
      obtain rfl := HV.out
      have hvr := valL_range (l.take k) 0 (by omega) (by omega)
      change 0 ≤ valL (l.take k) ∧ valL (l.take k) < 18446744073709551616 at hvr
      by_cases hlt : k < m
      · have hkl : k < l.length := by omega
        obtain ⟨ad, rfl, hcell⟩ := H3.out.d.1.all (by omega)
        have hc := hcell k hkl
        have hyr := H3.out.b (l.getD k 0) (by rw [List.getD_eq_getElem?_getD, List.getElem?_eq_getElem hkl, Option.getD_some]; exact List.getElem_mem hkl)
        have HS := Lib.hid (valL_snoc l k hkl)
        clear hcell HV
        generalize l.getD k 0 = y at *
        generalize valL (l.take k) = x at *
        have ho := or7 x (y % 128) (by omega) (by omega)
        have hst : (x * 128 + y % 128) % 18446744073709551616 = stepV x y := rfl
        rw [hst] at ho
        clear hst
        go_wp2
        go_round
        case rel => exact ⟨k + 1, by go_num, by omega, Lib.hid (by rw [HS.out])⟩
        case measure => simp [intOf] <;> omega
      · obtain rfl : k = m := by omega
        generalize hv : valL (l.take k) = x at *
        have hu := unz_prog x hvr.1 hvr.2
        have hur := unz_range x hvr.1 hvr.2
        have HR := Lib.hid hr
        unfold readS at hr
        rw [if_neg (by decide), HM.out] at hr
        simp only [hv] at hr
        have HRR := Lib.hid hr
        clear hr hv HV
        generalize unz x = u at *
        by_cases her : er = 0
        · subst her
          have hq := HRR.out
          rw [if_neg (by decide)] at hq
          by_cases h1 : u < lo
          · rw [if_pos (.inl h1)] at hq
            injection hq with q1 q2
            injection q2 with q2 q3
            subst q1 q2 q3
            clear HR HRR HM
            have HX : Hid (Vars (((w.alloc (.cells #[.pointer (some ⟨g, 0, none⟩)] 52)).alloc (.cells #[.int .i64 u] 3)).alloc (.cells #[.int .i64 2] 26)) w.heap.size g u 2) := Lib.hid (W3_vars w g u 2)
            have HY : Hid (Rdr (((w.alloc (.cells #[.pointer (some ⟨g, 0, none⟩)] 52)).alloc (.cells #[.int .i64 u] 3)).alloc (.cells #[.int .i64 2] 26)) g A c l 0) := Lib.hid (H.out.below (W3_below w g u 2))
            have HZ : Hid (Only g w (((w.alloc (.cells #[.pointer (some ⟨g, 0, none⟩)] 52)).alloc (.cells #[.int .i64 u] 3)).alloc (.cells #[.int .i64 2] 26))) := Lib.hid (Only.of (W3_below w g u 2))
            go_wp2_with fail
            clear h30 H3 H2
            generalize (((w.alloc (.cells #[.pointer (some ⟨g, 0, none⟩)] 52)).alloc (.cells #[.int .i64 u] 3)).alloc (.cells #[.int .i64 2] 26)) = w3 at *
            obtain ⟨v1, v2, v3, v4⟩ := HX.out
            have c0 := HY.out.st.c0
            have f0 := HY.out.st.f0
            go_region
            clear v1 v2 v3 v4 c0 f0
            have HX2 := Lib.hid (HX.out.set0 hg (.slice (cutA A k (c - k)) (l.length - k) (c - k)))
            have HC2 : Hid (RdrC (w3.setCell ⟨g, 0, none⟩ (.slice (cutA A k (c - k)) (l.length - k) (c - k))).drew g (.slice (cutA A k (c - k)) (l.length - k) (c - k)) 0) := Lib.hid (drewC (HY.out.st.set0 _))
            have HZ2 : Hid (Only g w (w3.setCell ⟨g, 0, none⟩ (.slice (cutA A k (c - k)) (l.length - k) (c - k))).drew) := Lib.hid (HZ.out.setCell 0 _).drew
            generalize (w3.setCell ⟨g, 0, none⟩ (.slice (cutA A k (c - k)) (l.length - k) (c - k))).drew = w4 at *
            obtain ⟨v1, v2, v3, v4⟩ := HX2.out
            go_wp2
            clear v1 v2 v3 v4 HX HY HZ
            have HX5 := Lib.hid (HX2.out.setN u)
            have HC5 := Lib.hid (HC2.out.same (Below.heap_setCell w4 ⟨w.heap.size + 1, 0, none⟩ (.int .i64 u) g (by show g ≠ w.heap.size + 1; omega)))
            have HZ5 := Lib.hid (HZ2.out.setNew (p := ⟨w.heap.size + 1, 0, none⟩) (by show w.heap.size ≤ w.heap.size + 1; omega) (.int .i64 u))
            generalize w4.setCell ⟨w.heap.size + 1, 0, none⟩ (.int .i64 u) = w5 at *
            clear HX2 HC2 HZ2
            refine leaves_cons (f := 35) (args := #[.pointer (some ⟨w.heap.size + 1 + 1, 0, none⟩), .pointer (some ⟨w.heap.size, 0, none⟩), .pointer (some ⟨w.heap.size + 1, 0, none⟩)]) (by simp) (by simp [go_sem]) ?_
            refine (close_any g 2 0 u _ _ _ .returning _ HX5.out.r HX5.out.e HC5.out.c1 HC5.out.f1 (HX5.out.setE hg _).e (HX5.out.setE hg _).n HX5.out.f).mono ?_
            rintro r u' w6 ⟨rfl, rfl, hw6⟩
            obtain ⟨k1, k2, k3⟩ := close_world (e := 2) hg HX5.out HC5.out HZ5.out hw6
            clear hw6
            skip
            simp [Leaves, settle, results, Tryd.results25, go_sem, k1]
            exact ⟨⟨_, _, RdrK.cut (rdr_cut H.out.b k2 (H.out.d.only k3) (by omega) hcp (by omega)) (by omega) hcp⟩, k3⟩
          · by_cases h2 : hi < u
            · rw [if_pos (.inr h2)] at hq
              injection hq with q1 q2
              injection q2 with q2 q3
              subst q1 q2 q3
              clear HR HRR HM
              have HX : Hid (Vars (((w.alloc (.cells #[.pointer (some ⟨g, 0, none⟩)] 52)).alloc (.cells #[.int .i64 u] 3)).alloc (.cells #[.int .i64 2] 26)) w.heap.size g u 2) := Lib.hid (W3_vars w g u 2)
              have HY : Hid (Rdr (((w.alloc (.cells #[.pointer (some ⟨g, 0, none⟩)] 52)).alloc (.cells #[.int .i64 u] 3)).alloc (.cells #[.int .i64 2] 26)) g A c l 0) := Lib.hid (H.out.below (W3_below w g u 2))
              have HZ : Hid (Only g w (((w.alloc (.cells #[.pointer (some ⟨g, 0, none⟩)] 52)).alloc (.cells #[.int .i64 u] 3)).alloc (.cells #[.int .i64 2] 26))) := Lib.hid (Only.of (W3_below w g u 2))
              go_wp2_with fail
              clear h30 H3 H2
              generalize (((w.alloc (.cells #[.pointer (some ⟨g, 0, none⟩)] 52)).alloc (.cells #[.int .i64 u] 3)).alloc (.cells #[.int .i64 2] 26)) = w3 at *
              obtain ⟨v1, v2, v3, v4⟩ := HX.out
              have c0 := HY.out.st.c0
              have f0 := HY.out.st.f0
              go_region
              clear v1 v2 v3 v4 c0 f0
              have HX2 := Lib.hid (HX.out.set0 hg (.slice (cutA A k (c - k)) (l.length - k) (c - k)))
              have HC2 : Hid (RdrC (w3.setCell ⟨g, 0, none⟩ (.slice (cutA A k (c - k)) (l.length - k) (c - k))).drew g (.slice (cutA A k (c - k)) (l.length - k) (c - k)) 0) := Lib.hid (drewC (HY.out.st.set0 _))
              have HZ2 : Hid (Only g w (w3.setCell ⟨g, 0, none⟩ (.slice (cutA A k (c - k)) (l.length - k) (c - k))).drew) := Lib.hid (HZ.out.setCell 0 _).drew
              generalize (w3.setCell ⟨g, 0, none⟩ (.slice (cutA A k (c - k)) (l.length - k) (c - k))).drew = w4 at *
              obtain ⟨v1, v2, v3, v4⟩ := HX2.out
              go_wp2
              clear v1 v2 v3 v4 HX HY HZ
              have HX5 := Lib.hid (HX2.out.setN u)
              have HC5 := Lib.hid (HC2.out.same (Below.heap_setCell w4 ⟨w.heap.size + 1, 0, none⟩ (.int .i64 u) g (by show g ≠ w.heap.size + 1; omega)))
              have HZ5 := Lib.hid (HZ2.out.setNew (p := ⟨w.heap.size + 1, 0, none⟩) (by show w.heap.size ≤ w.heap.size + 1; omega) (.int .i64 u))
              generalize w4.setCell ⟨w.heap.size + 1, 0, none⟩ (.int .i64 u) = w5 at *
              clear HX2 HC2 HZ2
              refine leaves_cons (f := 35) (args := #[.pointer (some ⟨w.heap.size + 1 + 1, 0, none⟩), .pointer (some ⟨w.heap.size, 0, none⟩), .pointer (some ⟨w.heap.size + 1, 0, none⟩)]) (by simp) (by simp [go_sem]) ?_
              refine (close_any g 2 0 u _ _ _ .returning _ HX5.out.r HX5.out.e HC5.out.c1 HC5.out.f1 (HX5.out.setE hg _).e (HX5.out.setE hg _).n HX5.out.f).mono ?_
              rintro r u' w6 ⟨rfl, rfl, hw6⟩
              obtain ⟨k1, k2, k3⟩ := close_world (e := 2) hg HX5.out HC5.out HZ5.out hw6
              clear hw6
              skip
              simp [Leaves, settle, results, Tryd.results25, go_sem, k1]
              exact ⟨⟨_, _, RdrK.cut (rdr_cut H.out.b k2 (H.out.d.only k3) (by omega) hcp (by omega)) (by omega) hcp⟩, k3⟩
            · rw [if_neg (by omega)] at hq
              injection hq with q1 q2
              injection q2 with q2 q3
              subst q1 q2 q3
              clear HR HRR HM
              have HX : Hid (Vars (((w.alloc (.cells #[.pointer (some ⟨g, 0, none⟩)] 52)).alloc (.cells #[.int .i64 u] 3)).alloc (.cells #[.int .i64 0] 26)) w.heap.size g u 0) := Lib.hid (W3_vars w g u 0)
              have HY : Hid (Rdr (((w.alloc (.cells #[.pointer (some ⟨g, 0, none⟩)] 52)).alloc (.cells #[.int .i64 u] 3)).alloc (.cells #[.int .i64 0] 26)) g A c l 0) := Lib.hid (H.out.below (W3_below w g u 0))
              have HZ : Hid (Only g w (((w.alloc (.cells #[.pointer (some ⟨g, 0, none⟩)] 52)).alloc (.cells #[.int .i64 u] 3)).alloc (.cells #[.int .i64 0] 26))) := Lib.hid (Only.of (W3_below w g u 0))
              go_wp2_with fail
              clear h30 H3 H2
              generalize (((w.alloc (.cells #[.pointer (some ⟨g, 0, none⟩)] 52)).alloc (.cells #[.int .i64 u] 3)).alloc (.cells #[.int .i64 0] 26)) = w3 at *
              obtain ⟨v1, v2, v3, v4⟩ := HX.out
              have c0 := HY.out.st.c0
              have f0 := HY.out.st.f0
              go_region
              clear v1 v2 v3 v4 c0 f0
              have HX2 := Lib.hid (HX.out.set0 hg (.slice (cutA A k (c - k)) (l.length - k) (c - k)))
              have HC2 : Hid (RdrC (w3.setCell ⟨g, 0, none⟩ (.slice (cutA A k (c - k)) (l.length - k) (c - k))).drew g (.slice (cutA A k (c - k)) (l.length - k) (c - k)) 0) := Lib.hid (drewC (HY.out.st.set0 _))
              have HZ2 : Hid (Only g w (w3.setCell ⟨g, 0, none⟩ (.slice (cutA A k (c - k)) (l.length - k) (c - k))).drew) := Lib.hid (HZ.out.setCell 0 _).drew
              generalize (w3.setCell ⟨g, 0, none⟩ (.slice (cutA A k (c - k)) (l.length - k) (c - k))).drew = w4 at *
              obtain ⟨v1, v2, v3, v4⟩ := HX2.out
              go_wp2
              clear v1 v2 v3 v4 HX HY HZ
              have HX5 := Lib.hid (HX2.out.setN u)
              have HC5 := Lib.hid (HC2.out.same (Below.heap_setCell w4 ⟨w.heap.size + 1, 0, none⟩ (.int .i64 u) g (by show g ≠ w.heap.size + 1; omega)))
              have HZ5 := Lib.hid (HZ2.out.setNew (p := ⟨w.heap.size + 1, 0, none⟩) (by show w.heap.size ≤ w.heap.size + 1; omega) (.int .i64 u))
              generalize w4.setCell ⟨w.heap.size + 1, 0, none⟩ (.int .i64 u) = w5 at *
              clear HX2 HC2 HZ2
              refine leaves_cons (f := 35) (args := #[.pointer (some ⟨w.heap.size + 1 + 1, 0, none⟩), .pointer (some ⟨w.heap.size, 0, none⟩), .pointer (some ⟨w.heap.size + 1, 0, none⟩)]) (by simp) (by simp [go_sem]) ?_
              refine (close_any g 0 0 u _ _ _ .returning _ HX5.out.r HX5.out.e HC5.out.c1 HC5.out.f1 (HX5.out.setE hg _).e (HX5.out.setE hg _).n HX5.out.f).mono ?_
              rintro r u' w6 ⟨rfl, rfl, hw6⟩
              obtain ⟨k1, k2, k3⟩ := close_world (e := 0) hg HX5.out HC5.out HZ5.out hw6
              clear hw6
              skip
              simp [Leaves, settle, results, Tryd.results25, go_sem, k1]
              exact ⟨⟨_, _, RdrK.cut (rdr_cut H.out.b k2 (H.out.d.only k3) (by omega) hcp (by omega)) (by omega) hcp⟩, k3⟩
        · have hq := HRR.out
          rw [if_pos her] at hq
          injection hq with q1 q2
          injection q2 with q2 q3
          have hk0 : k = 0 := by
            have := endsL_bad l
            rw [HM.out] at this
            exact this her
          have e : l2 = l.drop k := by rw [hk0, ← q2]; rfl
          subst q1 q3
          clear hk0 q2 HR HRR HM
          subst e
          have hb : (er == 0) = false := by simpa using her
          have HER := Lib.hid her
          clear her
          have HX : Hid (Vars (((w.alloc (.cells #[.pointer (some ⟨g, 0, none⟩)] 52)).alloc (.cells #[.int .i64 u] 3)).alloc (.cells #[.int .i64 er] 26)) w.heap.size g u er) := Lib.hid (W3_vars w g u er)
          have HY : Hid (Rdr (((w.alloc (.cells #[.pointer (some ⟨g, 0, none⟩)] 52)).alloc (.cells #[.int .i64 u] 3)).alloc (.cells #[.int .i64 er] 26)) g A c l 0) := Lib.hid (H.out.below (W3_below w g u er))
          have HZ : Hid (Only g w (((w.alloc (.cells #[.pointer (some ⟨g, 0, none⟩)] 52)).alloc (.cells #[.int .i64 u] 3)).alloc (.cells #[.int .i64 er] 26))) := Lib.hid (Only.of (W3_below w g u er))
          go_wp2_with fail
          clear h30 H3 H2
          generalize (((w.alloc (.cells #[.pointer (some ⟨g, 0, none⟩)] 52)).alloc (.cells #[.int .i64 u] 3)).alloc (.cells #[.int .i64 er] 26)) = w3 at *
          obtain ⟨v1, v2, v3, v4⟩ := HX.out
          have c0 := HY.out.st.c0
          have f0 := HY.out.st.f0
          go_region
          clear v1 v2 v3 v4 c0 f0
          have HX2 := Lib.hid (HX.out.set0 hg (.slice (cutA A k (c - k)) (l.length - k) (c - k)))
          have HC2 : Hid (RdrC (w3.setCell ⟨g, 0, none⟩ (.slice (cutA A k (c - k)) (l.length - k) (c - k))).drew g (.slice (cutA A k (c - k)) (l.length - k) (c - k)) 0) := Lib.hid (drewC (HY.out.st.set0 _))
          have HZ2 : Hid (Only g w (w3.setCell ⟨g, 0, none⟩ (.slice (cutA A k (c - k)) (l.length - k) (c - k))).drew) := Lib.hid (HZ.out.setCell 0 _).drew
          generalize (w3.setCell ⟨g, 0, none⟩ (.slice (cutA A k (c - k)) (l.length - k) (c - k))).drew = w4 at *
          obtain ⟨v1, v2, v3, v4⟩ := HX2.out
          go_wp2
          clear v1 v2 v3 v4 HX HY HZ
          have HX5 := Lib.hid (HX2.out.setN u)
          have HC5 := Lib.hid (HC2.out.same (Below.heap_setCell w4 ⟨w.heap.size + 1, 0, none⟩ (.int .i64 u) g (by show g ≠ w.heap.size + 1; omega)))
          have HZ5 := Lib.hid (HZ2.out.setNew (p := ⟨w.heap.size + 1, 0, none⟩) (by show w.heap.size ≤ w.heap.size + 1; omega) (.int .i64 u))
          generalize w4.setCell ⟨w.heap.size + 1, 0, none⟩ (.int .i64 u) = w5 at *
          clear HX2 HC2 HZ2
          refine leaves_cons (f := 35) (args := #[.pointer (some ⟨w.heap.size + 1 + 1, 0, none⟩), .pointer (some ⟨w.heap.size, 0, none⟩), .pointer (some ⟨w.heap.size + 1, 0, none⟩)]) (by simp) (by simp [go_sem]) ?_
          refine (close_any g er 0 u _ _ _ .returning _ HX5.out.r HX5.out.e HC5.out.c1 HC5.out.f1 (HX5.out.setE hg _).e (HX5.out.setE hg _).n HX5.out.f).mono ?_
          rintro r u' w6 ⟨rfl, rfl, hw6⟩
          obtain ⟨k1, k2, k3⟩ := close_world (e := er) hg HX5.out HC5.out HZ5.out hw6
          clear hw6
          rw [if_neg HER.out] at k1
          simp [Leaves, settle, results, Tryd.results25, go_sem, k1]
          exact ⟨⟨_, _, RdrK.cut (rdr_cut H.out.b k2 (H.out.d.only k3) (by omega) hcp (by omega)) (by omega) hcp⟩, k3⟩
  · rw [readS, if_pos he] at hr
    injection hr with h1 hr
    injection hr with h2 h3
    subst h1 h2 h3
    have HB := Lib.hid (below_two (below_lit w (.cells #[.pointer (some ⟨g, 0, none⟩)] 52)) (below_lit _ (.cells #[.int .i64 0] 3)))
    have H := Lib.hid h
    clear h
    go_enter_defers Tryd.func25, Tryd.ntmps25
    go_wp2_with fail
    have H2 := Lib.hid (H.out.below HB.out)
    refine (Err_any g e _ H2.out.st.c1).mono ?_
    have hb : (e != 0) = true := by simpa using he
    rintro r w' ⟨rfl, rfl⟩
    go_wp2
    simp [bodyPostD, Leaves, settle, results, Tryd.results25, go_sem]
    exact ⟨⟨A, c, H2.out, fun _ hd => hd.only (Only.of HB.out)⟩, Only.of HB.out⟩
theorem RdNum_any (g : Nat) (A : Option Addr) (c : Nat) (l : List Int) (e lo hi : Int) (w : World) (h : Rdr w g A c l e) (n : Int) (l2 : List Int) (e2 : Int) (hr : readS l e lo hi = (n, l2, e2)) (hlen : l.length ≤ 1000000) :
    Calls Tryd.prog 25 #[.pointer (some ⟨g, 0, none⟩), .int .i64 lo, .int .i64 hi] w fun r w' => r = .returned (.int .i64 n) ∧ ∃ A2 c2, Rdr w' g A2 c2 l2 e2 ∧ Only g w w' :=
  (RdNum_dat g A c l e lo hi w h n l2 e2 hr hlen).mono fun _ _ ⟨h1, A2, c2, h2, h3⟩ => ⟨h1, A2, c2, h2.r, h3⟩
end Go.Proofs.YticebanhccgglaaDoor
