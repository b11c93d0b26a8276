
/- rle.runs$1: the iterator over runs; its state lies in the captured slice's box. -/
import Derived.Test.YticebanhccgglaaDoorPut17
import Derived.Test.YticebanhccgglaaDoorTrim17
import Derived.Test.YticebanhccgglaaDoorPlain17c
import Derived.Deep.RegionHeldLaw
import Derived.BigQuiet
namespace Go.Proofs.YticebanhccgglaaDoor
open Go.RowKit
attribute [local go_sem] Oper.semAt_some

def restLen (g : Nat) (w : World) : Nat := match w.cell? ⟨g, 0, none⟩ with
  | some (.slice _ n _) => n
  | _ => 0
theorem Mid.left {w W : World} {r : Loop} {A : Option Addr} {c n K : Nat} {rest out : List Int} (h : Mid w r A c n rest out K W) : restLen (w.heap.size + 1) W = n := by
  unfold restLen
  rw [h.box.cell 0]
  rfl
theorem Mid.below {w W W' : World} {r : Loop} {A : Option Addr} {c n K : Nat} {rest out : List Int} (h : Mid w r A c n rest out K W) (hb : Below W.heap.size W W') : Mid w r A c n rest out K W' := by
  have hlt := h.lt
  obtain ⟨A7, c7, ho1, ho2⟩ := h.out
  exact ⟨Below.heapAt hb (by omega) h.L, Below.heapAt hb (by omega) h.D, h.box.below hb, h.len, h.olen, h.rd, ⟨A7, c7, ho1.below hb, own_below ho2 hb⟩, h.bel.trans (hb.mono (by omega))⟩
/-- The iterator has cut what it told. -/
theorem Mid.cut {w W : World} {r : Loop} {A A' : Option Addr} {c c' n n' K : Nat} {rest rest' out : List Int} (h : Mid w r A c n rest out K W) (hl : rest'.length = n') (hr : RdI w .u8 A' c' rest') :
    Mid w r A' c' n' rest' out K (W.setCell ⟨w.heap.size + 1, 0, none⟩ (.slice A' n' c')) := by
  have hlt := h.lt
  obtain ⟨A7, c7, ho1, ho2⟩ := h.out
  have hg := grown_setCell W (w.heap.size + 1) 0 (.slice A' n' c')
  exact ⟨heap_grown h.L hg (by omega), heap_grown h.D hg (by omega), h.box.setc 0 _, hl, h.olen, hr, ⟨A7, c7, ho1.grown hg (by omega), own_keep ho2 hg (by omega)⟩, below_grown h.bel (by omega) hg (by omega)⟩
theorem leadEq_first {l : List Int} {x : Int} (h : 0 < l.length) (hx : l.getD 0 0 = x) : 1 ≤ leadEq x l := by
  cases l with
  | nil => simp at h
  | cons y r =>
    have : y = x := by simpa using hx
    simp [leadEq, this]

set_option maxRecDepth 100000 in
set_option maxHeartbeats 4000000 in
theorem runs_any (fn : FuncId) (m : Nat) (Al A : Option Addr) (nl cl c n : Nat) (rest : List Int) (w W : World) (hn : n ≤ 1000000) (hb : ∀ x ∈ rest, 0 ≤ x ∧ x < 256) (h : Mid w (putRec fn Al nl cl w.heap.size .ready) A c n rest [] 0 W) :
    CallsIn Fence.wide m Tryd.prog 20 #[.func (.yield (w.heap.size + 3)) #[] #[], .pointer (some ⟨w.heap.size + 1, 0, none⟩)] W
      fun e W' => (∃ v, e = .returned v) ∧ ∃ A' c' K', Mid w (putRec fn Al nl cl w.heap.size .ready) A' c' 0 [] (putR rest) K' W' := by
  have HM0 := Lib.hid h
  have HB0 := Lib.hid hb
  have HP : Hid ((putR rest).length ≤ 2000000) := Lib.hid (by have := (putR_le n rest (Nat.le_of_eq h.len) hn).1; rw [h.len] at this; omega)
  clear h hb
  refine callsIn_of_wp Tryd.func20 rfl trivial ?_ rfl
  simp only [Tryd.ntmps20, List.size_toArray, List.length_cons, List.length_nil, Nat.reduceAdd, Nat.reduceSub, Array.replicate_succ, Array.replicate_zero, List.push_toArray, List.append_toArray, List.nil_append, List.cons_append]
  gi_wp2
  gi_loopw [3] (fun _ wr => ∃ (A1 : Option Addr) (c1 n1 : Nat) (rest1 out : List Int) (K : Nat), Hid (Mid w (putRec fn Al nl cl w.heap.size .ready) A1 c1 n1 rest1 out K wr) ∧ n1 ≤ n ∧ Hid (∀ x ∈ rest1, 0 ≤ x ∧ x < 256) ∧ Hid (out ++ putR rest1 = putR rest)) (fun _ wr => restLen (w.heap.size + 1) wr)
  case atStart => exact ⟨A, c, n, rest, [], 0, HM0, Nat.le_refl _, HB0, Lib.hid rfl⟩
  case round =>
    obtain ⟨A1, c1, n1, rest1, out, K, HM, hn1, HBD, HTOT⟩ := hrel
    have c1' : wr.cell? ⟨w.heap.size + 1, 0, none⟩ = some (.slice A1 n1 c1) := HM.out.box.cell 0
    have hKle : K ≤ 2000000 := by
      have := HP.out
      rw [← HTOT.out, List.length_append, HM.out.olen] at this
      omega
    by_cases h0 : n1 = 0
    · subst h0
      have hnil : rest1 = [] := List.eq_nil_of_length_eq_zero HM.out.len
      subst hnil
      have htot := HTOT.out
      rw [putR_nil, List.append_nil] at htot
      subst htot
      gi_wp2
      first | go_end0 | go_ret
      exact ⟨⟨_, rfl⟩, A1, c1, K, HM.out⟩
    · have HLEN := Lib.hid HM.out.len
      have hlt : 0 < rest1.length := by rw [HLEN.out]; omega
      have hrd := HM.out.rd
      obtain ⟨ad, rfl, e0⟩ := RdI.at_ hrd hlt
      have hcap1 := hrd.le
      rw [HLEN.out] at hcap1
      obtain ⟨x, hx⟩ : ∃ x, rest1.getD 0 0 = x := ⟨_, rfl⟩
      rw [hx] at e0
      have HE0 : Hid (w.cell? ad = some (.int .u8 x)) := Lib.hid e0
      have HX := Lib.hid hx
      obtain ⟨k0, hk0⟩ : ∃ k0, leadEq 0 rest1 = k0 := ⟨_, rfl⟩
      have hk0n : k0 ≤ n1 := by rw [← hk0, ← HLEN.out]; exact leadEq_le 0 rest1
      obtain ⟨r0, hr0⟩ : ∃ r0, n1 - k0 = r0 := ⟨_, rfl⟩
      have htr := Trim_any (some ad) c1 n1 rest1 k0 wr.drew HLEN.out hk0 (hrd.below (HM.out.bel.trans ((Below.refl _ _).drew)))
      rw [hr0] at htr
      have hsub : (n1 : Int) - (r0 : Int) = (k0 : Int) := by omega
      have HTR := Lib.hid htr
      have HK0 := Lib.hid hk0
      have HMD : Hid (Mid w (putRec fn Al nl cl w.heap.size .ready) (some ad) c1 n1 rest1 out K wr.drew) := Lib.hid (HM.out.below (Below.refl _ _).drew)
      have e0 := (HMD.out.bel.cell (World.block_lt_of_cell? w _ HE0.out)).trans HE0.out
      have hn1p : 0 < n1 := by omega
      have b0 : (0 : Int) < (n1 : Int) := by omega
      have c1d : wr.drew.cell? ⟨w.heap.size + 1, 0, none⟩ = some (.slice (some ad) n1 c1) := HMD.out.box.cell 0
      clear hrd hx hk0 hr0 htr hlt h0
      gi_wp2
      refine wpIn_wide.2 ?_
      go_region_held_law (fun w' => w'.cell? ⟨w.heap.size + 1, 0, none⟩ = some (.slice (some ad) n1 c1)) (first | exact c1d | assumption) (first | (go_simp; go_at_call 21; refine HTR.out.mono ?_; rintro e w2 ⟨A', c', rfl, rfl⟩))
      by_cases hx0 : x = 0
      · subst hx0
        obtain ⟨W5, hW5⟩ : ∃ W5, wr.drew = W5 := ⟨_, rfl⟩
        rw [hW5] at HMD e0 c1d ⊢
        have hput := putR_at (l := rest1) (i := 0) (n := k0) (by rw [HLEN.out]; exact hn1p) (by rw [HX.out]; exact HK0.out)
        rw [HX.out] at hput
        have HM5 := HMD
        obtain ⟨k, hkk⟩ : ∃ k, k0 = k := ⟨_, rfl⟩
        rw [hkk] at hput hsub ⊢
        have hwk : IntKind.i64.wrap (k : Int) = (k : Int) := by rw [IntKind.wrap_i64]; omega
        clear hW5 HK0 hk0n hkk
        have h1N : k ≤ n1 := by have := hput.2.1; rw [HLEN.out] at this; omega
        obtain ⟨r1, hr1⟩ : ∃ r1, n1 - k = r1 := ⟨_, rfl⟩
        have hput1 := hput.1
        have HPUT : Hid (putR rest1 = encR (k, 0) ++ putR (rest1.drop k)) := Lib.hid (by have := hput.2.2; rwa [List.drop_zero, Nat.zero_add] at this)
        clear hput
        have c1' : W5.cell? ⟨w.heap.size + 1, 0, none⟩ = some (.slice (some ad) n1 c1) := HM5.out.box.cell 0
        have e0 := (HM5.out.bel.cell (World.block_lt_of_cell? w _ HE0.out)).trans HE0.out
        have hy : (Instr.yield (w.heap.size + 3) #[.int .i64 k, .int .u8 0]).run Tryd.prog W5 = .ok (.round (w.heap.size + 3) fn #[.slice Al nl cl, undef, .slice none 0 0, .pointer (some ⟨w.heap.size, 0, none⟩), undef, undef, .slice Al nl cl, .func (.func 20) #[] #[.pointer (some ⟨w.heap.size + 1, 0, none⟩)], .int .i64 k, .int .u8 0, undef, undef, undef, undef, undef, undef, undef, undef] putAssign putBody) W5 := by simpa [putRec] using run_yield (P := Tryd.prog) (args := #[.int .i64 k, .int .u8 0]) HM5.out.L rfl
        go_wp2
        gi_wp2
        refine ⟨fun h => by simp [Fence.wide] at h, ?_⟩
        refine (put_round fn _ Al (some ad) nl cl c1 n1 K k 0 rest1 out w W5 HM5.out (by omega) (by omega)).mono ?_
        rintro e W6 ⟨rfl, K6, hM6⟩
        have HM6 := Lib.hid hM6
        have c1' : W6.cell? ⟨w.heap.size + 1, 0, none⟩ = some (.slice (some ad) n1 c1) := HM6.out.box.cell 0
        have f1' := HM6.out.box.free 0
        have hsl : ∀ W : World, (Instr.sliceAt 22 (.slice (some ad) n1 c1) (some (.int .i64 k)) none none).run Tryd.prog W = .ok (.slice (cutA (some ad) k (c1 - k)) r1 (c1 - k)) W := fun W => by
          have := sl_l (some ad) n1 c1 k W h1N hcap1
          rwa [hr1] at this
        have HCUT : Hid (RdI w .u8 (cutA (some ad) k (c1 - k)) (c1 - k) (rest1.drop k)) := Lib.hid (by
          have := RdI.cut HM6.out.rd k r1 (c1 - k) (by rw [HLEN.out]; omega) (by omega) (by omega)
          rwa [List.take_of_length_le (by rw [List.length_drop, HLEN.out]; omega)] at this)
        obtain ⟨A4, hA4⟩ : ∃ A4, cutA (some ad) k (c1 - k) = A4 := ⟨_, rfl⟩
        obtain ⟨c4, hc4⟩ : ∃ c4, c1 - k = c4 := ⟨_, rfl⟩
        rw [hA4, hc4] at hsl HCUT
        have HMC := Lib.hid (Mid.cut HM6.out (A' := A4) (c' := c4) (n' := r1) (rest' := rest1.drop k) (by rw [List.length_drop, HLEN.out]; exact hr1) HCUT.out)
        have HM0 := Lib.hid HM.out.left
        have hr1' : r1 < n1 := by omega
        clear hM6 hy hA4 hc4 hr1 e0
        gi_wp2
        go_roundw
        case rel => exact ⟨A4, c4, r1, rest1.drop k, _, K6, HMC, by omega, Lib.hid (fun z hz => HBD.out z (List.mem_of_mem_drop hz)), Lib.hid (by rw [List.append_assoc, ← HPUT.out]; exact HTOT.out)⟩
        case measure => rw [HMC.out.left, HM0.out]; exact hr1'
      · have bx0 : (x == 0) = false := by simpa using hx0
        obtain ⟨W0, hW0⟩ : ∃ W0, wr.drew = W0 := ⟨_, rfl⟩
        rw [hW0] at HMD e0 c1d ⊢
        have HRF := Lib.hid (Below.refl W0.heap.size W0)
        have HS1 : Hid (∀ j, j < 1 → rest1.getD j 0 = x) := Lib.hid (fun j hj => by
          obtain rfl : j = 0 := by omega
          exact HX.out)
        clear hsub hk0n HK0 hW0 HTR
        go_wp2
        gi_wp2
        gi_loopw [3] (fun v wi => ∃ j : Nat, v = .int .i64 j ∧ 1 ≤ j ∧ j ≤ n1 ∧ Hid (∀ i, i < j → rest1.getD i 0 = x) ∧ Hid (Below W0.heap.size W0 wi)) (fun v _ => n1 - (intOf v).toNat)
        case atStart => exact ⟨1, rfl, by omega, by omega, HS1, HRF⟩
        case round =>
          clear HS1 HRF c1d e0
          obtain ⟨j, rfl, hj1, hjn, HS, HBI⟩ := hrel
          have hfin : ∀ h3 : (j < rest1.length → rest1.getD j 0 ≠ x), leadEq x rest1 = j := fun h3 => leadEq_is (by rw [HLEN.out]; exact hjn) HS.out h3
          have HFIN := Lib.hid hfin
          have HMW : Hid (Mid w (putRec fn Al nl cl w.heap.size .ready) (some ad) c1 n1 rest1 out K wr) := Lib.hid (HMD.out.below HBI.out)
          have c1i : wr.cell? ⟨w.heap.size + 1, 0, none⟩ = some (.slice (some ad) n1 c1) := HMW.out.box.cell 0
          have e0 := (HMW.out.bel.cell (World.block_lt_of_cell? w _ HE0.out)).trans HE0.out
          clear hfin
          by_cases hlt2 : j < n1
          · obtain ⟨ad', had, e1⟩ := RdI.at_ (HMW.out.rd.below HMW.out.bel) (show j < rest1.length by rw [HLEN.out]; exact hlt2)
            cases had
            obtain ⟨y, hy⟩ : ∃ y, rest1.getD j 0 = y := ⟨_, rfl⟩
            rw [hy] at e1
            have HY := Lib.hid hy
            have j0 : (0 : Int) ≤ (j : Int) := by omega
            have jN : (j : Int) < (n1 : Int) := by omega
            clear hy
            by_cases hyx : y = x
            · subst hyx
              gi_wp2
              refine wpIn_wide.2 ?_
              go_quiet (fail)
              have HBI2 := Lib.hid (below_two HBI.out (below_drewN wr nq))
              go_wp2
              gi_wp2
              go_roundw
              case rel =>
                refine ⟨j + 1, by go_num, by omega, by omega, Lib.hid (fun i hi => ?_), HBI2⟩
                by_cases hij : i < j
                · exact HS.out i hij
                · obtain rfl : i = j := by omega
                  exact HY.out
              case measure => simp [intOf] <;> omega
            · have byx : (y == x) = false := by simpa using hyx
              have HFN := Lib.hid (HFIN.out (fun _ => by rw [HY.out]; exact hyx))
              gi_wp2
              refine wpIn_wide.2 ?_
              go_quiet (fail)
              obtain ⟨W5, hW5⟩ : ∃ W5, wr.drewN nq = W5 := ⟨_, rfl⟩
              rw [hW5]
              have HM5 : Hid (Mid w (putRec fn Al nl cl w.heap.size .ready) (some ad) c1 n1 rest1 out K W5) := Lib.hid (by rw [← hW5]; exact HMW.out.below (below_drewN wr nq))
              clear hW5 byx hyx e0 e1 c1i j0 jN
              obtain ⟨k, hkk⟩ : ∃ k, j = k := ⟨_, rfl⟩
              subst hkk
              have hput := putR_at (l := rest1) (i := 0) (n := j) (by rw [HLEN.out]; exact hn1p) (by rw [HX.out]; exact HFN.out)
              rw [HX.out] at hput
              obtain ⟨k, hkk⟩ : ∃ k, j = k := ⟨_, rfl⟩
              rw [hkk] at hput ⊢
              have hwk : IntKind.i64.wrap (k : Int) = (k : Int) := by rw [IntKind.wrap_i64]; omega
              clear HFN HFIN HY HS hkk
              have h1N : k ≤ n1 := by have := hput.2.1; rw [HLEN.out] at this; omega
              obtain ⟨r1, hr1⟩ : ∃ r1, n1 - k = r1 := ⟨_, rfl⟩
              have hput1 := hput.1
              have HPUT : Hid (putR rest1 = encR (k, x) ++ putR (rest1.drop k)) := Lib.hid (by have := hput.2.2; rwa [List.drop_zero, Nat.zero_add] at this)
              clear hput
              have c1' : W5.cell? ⟨w.heap.size + 1, 0, none⟩ = some (.slice (some ad) n1 c1) := HM5.out.box.cell 0
              have e0 := (HM5.out.bel.cell (World.block_lt_of_cell? w _ HE0.out)).trans HE0.out
              have hy : (Instr.yield (w.heap.size + 3) #[.int .i64 k, .int .u8 x]).run Tryd.prog W5 = .ok (.round (w.heap.size + 3) fn #[.slice Al nl cl, undef, .slice none 0 0, .pointer (some ⟨w.heap.size, 0, none⟩), undef, undef, .slice Al nl cl, .func (.func 20) #[] #[.pointer (some ⟨w.heap.size + 1, 0, none⟩)], .int .i64 k, .int .u8 x, undef, undef, undef, undef, undef, undef, undef, undef] putAssign putBody) W5 := by simpa [putRec] using run_yield (P := Tryd.prog) (args := #[.int .i64 k, .int .u8 x]) HM5.out.L rfl
              go_wp2
              gi_wp2
              refine ⟨fun h => by simp [Fence.wide] at h, ?_⟩
              refine (put_round fn _ Al (some ad) nl cl c1 n1 K k x rest1 out w W5 HM5.out (by omega) (by omega)).mono ?_
              rintro e W6 ⟨rfl, K6, hM6⟩
              have HM6 := Lib.hid hM6
              have c1' : W6.cell? ⟨w.heap.size + 1, 0, none⟩ = some (.slice (some ad) n1 c1) := HM6.out.box.cell 0
              have f1' := HM6.out.box.free 0
              have hsl : ∀ W : World, (Instr.sliceAt 22 (.slice (some ad) n1 c1) (some (.int .i64 k)) none none).run Tryd.prog W = .ok (.slice (cutA (some ad) k (c1 - k)) r1 (c1 - k)) W := fun W => by
                have := sl_l (some ad) n1 c1 k W h1N hcap1
                rwa [hr1] at this
              have HCUT : Hid (RdI w .u8 (cutA (some ad) k (c1 - k)) (c1 - k) (rest1.drop k)) := Lib.hid (by
                have := RdI.cut HM6.out.rd k r1 (c1 - k) (by rw [HLEN.out]; omega) (by omega) (by omega)
                rwa [List.take_of_length_le (by rw [List.length_drop, HLEN.out]; omega)] at this)
              obtain ⟨A4, hA4⟩ : ∃ A4, cutA (some ad) k (c1 - k) = A4 := ⟨_, rfl⟩
              obtain ⟨c4, hc4⟩ : ∃ c4, c1 - k = c4 := ⟨_, rfl⟩
              rw [hA4, hc4] at hsl HCUT
              have HMC := Lib.hid (Mid.cut HM6.out (A' := A4) (c' := c4) (n' := r1) (rest' := rest1.drop k) (by rw [List.length_drop, HLEN.out]; exact hr1) HCUT.out)
              have HM0 := Lib.hid HM.out.left
              have hr1' : r1 < n1 := by omega
              clear hM6 hy hA4 hc4 hr1 e0
              gi_wp2
              go_roundw
              case rel => exact ⟨A4, c4, r1, rest1.drop k, _, K6, HMC, by omega, Lib.hid (fun z hz => HBD.out z (List.mem_of_mem_drop hz)), Lib.hid (by rw [List.append_assoc, ← HPUT.out]; exact HTOT.out)⟩
              case measure => rw [HMC.out.left, HM0.out]; exact hr1'
          · obtain rfl : j = n1 := by omega
            have HFN := Lib.hid (HFIN.out (fun h => by rw [HLEN.out] at h; omega))
            gi_wp2
            refine wpIn_wide.2 ?_
            go_quiet (fail)
            obtain ⟨W5, hW5⟩ : ∃ W5, wr.drewN nq = W5 := ⟨_, rfl⟩
            rw [hW5]
            have HM5 : Hid (Mid w (putRec fn Al nl cl w.heap.size .ready) (some ad) c1 j rest1 out K W5) := Lib.hid (by rw [← hW5]; exact HMW.out.below (below_drewN wr nq))
            clear hW5 e0 c1i
            have hput := putR_at (l := rest1) (i := 0) (n := j) (by rw [HLEN.out]; exact hn1p) (by rw [HX.out]; exact HFN.out)
            rw [HX.out] at hput
            have hwk : IntKind.i64.wrap (j : Int) = (j : Int) := by rw [IntKind.wrap_i64]; omega
            clear HFN HFIN HS
            have h1N : j ≤ j := by have := hput.2.1; rw [HLEN.out] at this; omega
            obtain ⟨r1, hr1⟩ : ∃ r1, j - j = r1 := ⟨_, rfl⟩
            have hput1 := hput.1
            have HPUT : Hid (putR rest1 = encR (j, x) ++ putR (rest1.drop j)) := Lib.hid (by have := hput.2.2; rwa [List.drop_zero, Nat.zero_add] at this)
            clear hput
            have c1' : W5.cell? ⟨w.heap.size + 1, 0, none⟩ = some (.slice (some ad) j c1) := HM5.out.box.cell 0
            have e0 := (HM5.out.bel.cell (World.block_lt_of_cell? w _ HE0.out)).trans HE0.out
            have hy : (Instr.yield (w.heap.size + 3) #[.int .i64 j, .int .u8 x]).run Tryd.prog W5 = .ok (.round (w.heap.size + 3) fn #[.slice Al nl cl, undef, .slice none 0 0, .pointer (some ⟨w.heap.size, 0, none⟩), undef, undef, .slice Al nl cl, .func (.func 20) #[] #[.pointer (some ⟨w.heap.size + 1, 0, none⟩)], .int .i64 j, .int .u8 x, undef, undef, undef, undef, undef, undef, undef, undef] putAssign putBody) W5 := by simpa [putRec] using run_yield (P := Tryd.prog) (args := #[.int .i64 j, .int .u8 x]) HM5.out.L rfl
            go_wp2
            gi_wp2
            refine ⟨fun h => by simp [Fence.wide] at h, ?_⟩
            refine (put_round fn _ Al (some ad) nl cl c1 j K j x rest1 out w W5 HM5.out (by omega) (by omega)).mono ?_
            rintro e W6 ⟨rfl, K6, hM6⟩
            have HM6 := Lib.hid hM6
            have c1' : W6.cell? ⟨w.heap.size + 1, 0, none⟩ = some (.slice (some ad) j c1) := HM6.out.box.cell 0
            have f1' := HM6.out.box.free 0
            have hsl : ∀ W : World, (Instr.sliceAt 22 (.slice (some ad) j c1) (some (.int .i64 j)) none none).run Tryd.prog W = .ok (.slice (cutA (some ad) j (c1 - j)) r1 (c1 - j)) W := fun W => by
              have := sl_l (some ad) j c1 j W h1N hcap1
              rwa [hr1] at this
            have HCUT : Hid (RdI w .u8 (cutA (some ad) j (c1 - j)) (c1 - j) (rest1.drop j)) := Lib.hid (by
              have := RdI.cut HM6.out.rd j r1 (c1 - j) (by rw [HLEN.out]; omega) (by omega) (by omega)
              rwa [List.take_of_length_le (by rw [List.length_drop, HLEN.out]; omega)] at this)
            obtain ⟨A4, hA4⟩ : ∃ A4, cutA (some ad) j (c1 - j) = A4 := ⟨_, rfl⟩
            obtain ⟨c4, hc4⟩ : ∃ c4, c1 - j = c4 := ⟨_, rfl⟩
            rw [hA4, hc4] at hsl HCUT
            have HMC := Lib.hid (Mid.cut HM6.out (A' := A4) (c' := c4) (n' := r1) (rest' := rest1.drop j) (by rw [List.length_drop, HLEN.out]; exact hr1) HCUT.out)
            have HM0 := Lib.hid HM.out.left
            have hr1' : r1 < j := by omega
            clear hM6 hy hA4 hc4 hr1 e0
            gi_wp2
            go_roundw
            case rel => exact ⟨A4, c4, r1, rest1.drop j, _, K6, HMC, by omega, Lib.hid (fun z hz => HBD.out z (List.mem_of_mem_drop hz)), Lib.hid (by rw [List.append_assoc, ← HPUT.out]; exact HTOT.out)⟩
            case measure => rw [HMC.out.left, HM0.out]; exact hr1'
end Go.Proofs.YticebanhccgglaaDoor
