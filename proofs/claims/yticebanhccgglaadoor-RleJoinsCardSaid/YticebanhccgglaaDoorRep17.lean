
/- bytes.Repeat, of one byte. -/
import Derived.Shelf.Bits.Mul64
import Derived.Laws.MathBits
import Derived.Shelf.Small.Bits
import Derived.Lib.MakeNoZero
import Derived.Test.YticebanhccgglaaDoorTrim17
namespace Go.Proofs.YticebanhccgglaaDoor
open Go.RowKit

/-- Mul64's school method, walked as the kit's shelf walks it. -/
theorem Mul64_any (x y : Nat) (w : World) (hx : x < 18446744073709551616) (hy : y < 18446744073709551616) (h l : Nat) (hh : x * y / 18446744073709551616 = h) (hl : x * y % 18446744073709551616 = l) :
    Calls Tryd.prog 37 #[.int .u64 x, .int .u64 y] w fun e w' => e = .returned (.tuple #[.int .u64 h, .int .u64 l]) ∧ w = w' := by
  subst hh hl
  obtain ⟨bd, bt, bw, hhi⟩ := Lib.mul64_hi x y hx hy
  have ba := Lib.half_mul_le (a := x / 4294967296) (b := y / 4294967296) (by omega) (by omega)
  have bb := Lib.half_mul_le (a := x / 4294967296) (b := y % 4294967296) (by omega) (by omega)
  have bc := Lib.half_mul_le (a := x % 4294967296) (b := y / 4294967296) (by omega) (by omega)
  have ba' : x / 4294967296 * (y / 4294967296) < 18446744073709551616 := by omega
  have bb' : x / 4294967296 * (y % 4294967296) < 18446744073709551616 := by omega
  have bc' : x % 4294967296 * (y / 4294967296) < 18446744073709551616 := by omega
  have bh1 : x / 4294967296 * (y / 4294967296) + (x / 4294967296 * (y % 4294967296) + x % 4294967296 * (y % 4294967296) / 4294967296) / 4294967296 < 18446744073709551616 := by omega
  have bh : x / 4294967296 * (y / 4294967296) + (x / 4294967296 * (y % 4294967296) + x % 4294967296 * (y % 4294967296) / 4294967296) / 4294967296 + ((x / 4294967296 * (y % 4294967296) + x % 4294967296 * (y % 4294967296) / 4294967296) % 4294967296 + x % 4294967296 * (y / 4294967296)) / 4294967296 < 18446744073709551616 := by omega
  go_enter Tryd.func37, Tryd.ntmps37
  go_wp2
  simp only [Mul64.maskN x hx, Mul64.maskN y hy, Mul64.divN, Mul64.mulN, Mul64.addN, Mul64.wrapN _ bd, Mul64.wrapN _ bb', Mul64.wrapN _ bt, Mul64.maskN _ bt, Mul64.wrapN _ bc', Mul64.wrapN _ bw, Mul64.wrapN _ ba', Mul64.wrapN _ bh1, Mul64.wrapN _ bh, Mul64.wrapM (x * y)]
  rw [hhi]
  go_ret2
  exact ⟨rfl, rfl⟩

theorem Mul_any (x y : Nat) (w : World) (hx : x < 18446744073709551616) (hy : y < 18446744073709551616) (h l : Nat) (hh : x * y / 18446744073709551616 = h) (hl : x * y % 18446744073709551616 = l) :
    Calls Tryd.prog 27 #[.int .u64 x, .int .u64 y] w fun e w' => e = .returned (.tuple #[.int .u64 h, .int .u64 l]) ∧ w = w' := by
  go_enter Tryd.func27, Tryd.ntmps27
  go_wp2_with fail
  refine (Mul64_any x y w hx hy h l hh hl).mono ?_
  rintro e w' ⟨rfl, rfl⟩
  go_wp2
  go_ret2
  exact ⟨rfl, rfl⟩

theorem rep_splice (k m : Nat) (v : Value) (l : List Value) : List.take k (List.replicate k v ++ l.drop k) ++ List.replicate m v ++ List.drop (k + (List.replicate m v).length) (List.replicate k v ++ l.drop k) = List.replicate (k + m) v ++ l.drop (k + m) := by
  have e1 : List.take k (List.replicate k v ++ l.drop k) = List.replicate k v := by simp
  have e2 : List.drop (k + m) (List.replicate k v ++ l.drop k) = l.drop (k + m) := by
    rw [List.drop_append]
    simp
  rw [e1, List.length_replicate, e2, List.replicate_append_replicate]

set_option maxRecDepth 100000 in
set_option maxHeartbeats 2000000 in
theorem Repeat_any (A : Option Addr) (c : Nat) (y : Int) (n : Nat) (w : World) (hx : RdI w .u8 A c [y]) (h1 : 1 ≤ n) (hn : n ≤ 1000000) :
    Calls Tryd.prog 18 #[.slice A 1 c, .int .i64 n] w fun e w' => ∃ A' c', e = .returned (.slice A' n c') ∧ Rd w' A' n c' 1 (nums .u8 (List.replicate n y)) ∧ Below w.heap.size w w' := by
  have HX := Lib.hid hx
  obtain ⟨ad, rfl, e0⟩ := RdI.at_ hx (show 0 < [y].length by simp)
  have e0' : w.cell? ad = some (.int .u8 y) := e0
  have b0 : ((n : Int) == 0) = false := by
    have : (n : Int) ≠ 0 := by omega
    simpa using this
  clear hx e0
  obtain ⟨cs, hrunM, hle, hmax⟩ := Lib.run_makeNoZero (P := Tryd.prog) w #[3] 22 5 Tryd.underlying22 n (by omega)
  have hcall : (callFunc 28 #[.int .i64 (n : Int)]).run Tryd.prog w = .ok (.value (.slice (some ⟨w.heap.size, 0, none⟩) n cs.size)) ((w.alloc (.cells cs 5)).drewN 2) := by
    rw [run_callFunc_extern Tryd.func28 (by kernel_rfl) (by kernel_rfl) (by kernel_rfl) (e := Extern.BytealgMakeNoZero.makeNoZero #[3] #[22]) (by kernel_rfl), hrunM]
    rfl
  have hcap : cs.size ≤ maxLen := hmax (by unfold maxLen; omega)
  have hs3 : ∀ W : World, (Instr.sliceAt 22 (.slice (some ⟨w.heap.size, 0, none⟩) n cs.size) none (some (.int .i64 n)) (some (.int .i64 n))).run Tryd.prog W = .ok (.slice (some ⟨w.heap.size, 0, none⟩) n n) W := fun W => sl_hm (some ⟨w.heap.size, 0, none⟩) n cs.size n W hle
  have HB : Hid (Below w.heap.size w ((w.alloc (.cells cs 5)).drewN 2)) := Lib.hid (below_two (below_lit w _) (below_drewN _ 2))
  have HG : Hid (((w.alloc (.cells cs 5)).drewN 2).heap[w.heap.size]? = some (.cells cs.toList.toArray 5 (0, 0))) := Lib.hid (by rw [Array.toArray_toList]; exact heap_alloc_new _ _)
  have HCP := Lib.hid hcap
  clear hrunM hmax hcap
  go_enter Tryd.func18, Tryd.ntmps18
  go_wp2_with fail
  refine (Mul_any 1 n w (by decide) (by omega) 0 n (by omega) (by omega)).mono ?_
  rintro e w' ⟨rfl, rfl⟩
  by_cases h8 : 8192 < n
  · go_wp2_with (refine wpList_copy_splice rfl (.tmp 58) (.tmp 59) 22 22 rfl 5 Tryd.underlying22 (by kernel_rfl) _ _ _ _ _ _ rfl rfl w.heap.size 0 cs.toList 5 HG.out [.int .u8 y] (Nat.min_eq_left h1).symm ?g2 ?g3 ?g4 w.heap.size w HB.out (Nat.le_refl _) ?g5)
    case g2 =>
      intro j v hj
      have h2 := (below_lit w (.cells cs 5)).cell (World.block_lt_of_cell? w _ e0') |>.trans e0'
      match j, hj with
      | 0, hj =>
        simp at hj
        subst hj
        exact h2
    case g3 => simp; omega
    case g4 =>
      intro v hv
      simp at hv
      subst hv
      rfl
    case g5 =>
      intro w1 hg1 hb1
      have HG1 : Hid (w1.heap[w.heap.size]? = some (.cells ((List.replicate 1 (Value.int .u8 y)) ++ cs.toList.drop 1).toArray 5 (0, 0))) := Lib.hid (by
        have := hg1.out
        simpa [splice] using this)
      have HB1 := Lib.hid hb1
      clear hg1 hb1 hcall hs3 e0'
      go_wp2_with fail
      go_loopw [10] (fun v wi => ∃ k : Nat, v = .int .i64 k ∧ 1 ≤ k ∧ k ≤ n ∧ Hid (wi.heap[w.heap.size]? = some (.cells (List.replicate k (Value.int .u8 y) ++ cs.toList.drop k).toArray 5 (0, 0))) ∧ Hid (Below w.heap.size w wi)) (fun v _ => n - (intOf v).toNat)
      case atStart => exact ⟨1, rfl, Nat.le_refl _, h1, HG1, HB1⟩
      case round =>
        obtain ⟨k, rfl, hk1, hkn, HK, HBK⟩ := hrel
        by_cases hlt : k < n
        · obtain ⟨ch, hch, hch1⟩ : ∃ ch : Nat, min (k : Int) 8192 = ch ∧ 1 ≤ ch ∧ ch ≤ k := ⟨min k 8192, by omega, by omega, by omega⟩
          obtain ⟨m, hm⟩ : ∃ m, Nat.min ch (n - k) = m := ⟨_, rfl⟩
          have hm2 : 1 ≤ m ∧ m ≤ ch ∧ m ≤ n - k := by rw [← hm]; simp only [Nat.min_def]; split <;> omega
          have hsA : ∀ W : World, (Instr.sliceAt 22 (.slice (some ⟨w.heap.size, 0, none⟩) n n) (some (.int .i64 k)) none none).run Tryd.prog W = .ok (.slice (some ⟨w.heap.size, k, none⟩) (n - k) (n - k)) W := fun W => by
            have := sl_l (some ⟨w.heap.size, 0, none⟩) n n k W (by omega) (Nat.le_refl _)
            rw [this]
            simp [cutA, Addr.add, show ¬ n - k = 0 by omega, show ¬ k = 0 by omega]
          have hsB : ∀ W : World, (Instr.sliceAt 22 (.slice (some ⟨w.heap.size, 0, none⟩) n n) none (some (.int .i64 ch)) none).run Tryd.prog W = .ok (.slice (some ⟨w.heap.size, 0, none⟩) ch n) W := fun W => sl_h (some ⟨w.heap.size, 0, none⟩) n n ch W (by omega)
          have hcpy := run_copy_row (P := Tryd.prog) (w := wr.drew) 22 22 3 5 w.heap.size k (n - k) (n - k) ⟨w.heap.size, 0, none⟩ ch n (List.replicate k (Value.int .u8 y) ++ cs.toList.drop k).toArray 5 (List.replicate m (Value.int .u8 y)) Tryd.underlying22 (by kernel_rfl) HK.out (by rw [List.length_replicate, hm]) (fun j v hj => by
            have hj2 : j < m := by
              have := (List.getElem?_eq_some_iff.1 hj).1
              simpa using this
            have e1 := cell_of_row wr w.heap.size j _ 5 _ HK.out
            rw [List.getElem?_toArray, List.getElem?_append_left (by simp; omega), List.getElem?_replicate, if_pos (by omega)] at e1
            rw [List.getElem?_replicate, if_pos hj2] at hj
            rw [← hj, ← e1]
            show wr.cell? ((⟨w.heap.size, 0, none⟩ : Addr).add j) = _
            by_cases hj0 : j = 0
            · subst hj0
              rfl
            · simp [Addr.add, hj0]) (by simp; omega) (fun v hv => by rw [List.eq_of_mem_replicate hv]; rfl)
          have HM := Lib.hid hm
          clear hm
          have hcpy2 : (Builtin.copy_ #[22, 22] 3 #[.slice (some ⟨w.heap.size, k, none⟩) (n - k) (n - k), .slice (some ⟨w.heap.size, 0, none⟩) ch n]).run Tryd.prog wr.drew = .ok (.int .i64 m) (wr.drew.setRow w.heap.size (List.replicate (k + m) (Value.int .u8 y) ++ cs.toList.drop (k + m)).toArray) := by
            rw [hcpy, rep_splice k m (Value.int .u8 y) cs.toList, List.length_replicate]
            rfl
          clear hcpy
          obtain ⟨X, hX⟩ : ∃ X, List.replicate (k + m) (Value.int .u8 y) ++ cs.toList.drop (k + m) = X := ⟨_, rfl⟩
          rw [hX] at hcpy2
          have HX2 := Lib.hid hX
          clear hX
          have hkm : (k : Int) + (m : Int) ≤ (n : Int) := by omega
          go_wp2_with fail
          go_region
          have HK2 : Hid ((wr.drew.setRow w.heap.size X.toArray).heap[w.heap.size]? = some (.cells (List.replicate (k + m) (Value.int .u8 y) ++ cs.toList.drop (k + m)).toArray 5 (0, 0))) := Lib.hid (by
            rw [HX2.out]
            exact setRow_heap wr.drew w.heap.size _ _ 5 _ HK.out)
          have HB2 : Hid (Below w.heap.size w (wr.drew.setRow w.heap.size X.toArray)) := Lib.hid (below_setRow HBK.out.drew (Nat.le_refl _) _)
          go_wp2
          go_roundw
          case rel => exact ⟨k + m, by go_num, by omega, by omega, HK2, HB2⟩
          case measure => simp [intOf] <;> omega
        · obtain rfl : k = n := by omega
          have hro : Rd wr (some ⟨w.heap.size, 0, none⟩) k k 1 (nums .u8 (List.replicate k y)) := ⟨by simp [nums_length], Nat.le_refl _, by unfold maxLen; omega, fun h => by simp at h, fun j u hj => ⟨_, rfl, by
            have hjk : j < k := by
              have := (List.getElem?_eq_some_iff.1 hj).1
              rw [nums_length] at this
              simpa using this
            have e1 := cell_of_row wr w.heap.size j _ 5 _ HK.out
            rw [List.getElem?_toArray, List.getElem?_append_left (by simpa using hjk), List.getElem?_replicate, if_pos hjk] at e1
            have e2 : u = .int .u8 y := by
              simp [nums, hjk] at hj
              exact hj.symm
            rw [e2, ← e1]
            by_cases hj0 : j = 0
            · subst hj0
              rfl
            · simp [Addr.add, hj0]⟩⟩
          have HRO := Lib.hid hro
          clear hro
          go_wp2
          go_ret
          exact ⟨_, _, rfl, HRO.out, HBK.out⟩
  · go_wp2_with (refine wpList_copy_splice rfl (.tmp 58) (.tmp 59) 22 22 rfl 5 Tryd.underlying22 (by kernel_rfl) _ _ _ _ _ _ rfl rfl w.heap.size 0 cs.toList 5 HG.out [.int .u8 y] (Nat.min_eq_left h1).symm ?g2 ?g3 ?g4 w.heap.size w HB.out (Nat.le_refl _) ?g5)
    case g2 =>
      intro j v hj
      have h2 := (below_lit w (.cells cs 5)).cell (World.block_lt_of_cell? w _ e0') |>.trans e0'
      match j, hj with
      | 0, hj =>
        simp at hj
        subst hj
        exact h2
    case g3 => simp; omega
    case g4 =>
      intro v hv
      simp at hv
      subst hv
      rfl
    case g5 =>
      intro w1 hg1 hb1
      have HG1 : Hid (w1.heap[w.heap.size]? = some (.cells ((List.replicate 1 (Value.int .u8 y)) ++ cs.toList.drop 1).toArray 5 (0, 0))) := Lib.hid (by
        have := hg1.out
        simpa [splice] using this)
      have HB1 := Lib.hid hb1
      clear hg1 hb1 hcall hs3 e0'
      go_wp2_with fail
      go_loopw [10] (fun v wi => ∃ k : Nat, v = .int .i64 k ∧ 1 ≤ k ∧ k ≤ n ∧ Hid (wi.heap[w.heap.size]? = some (.cells (List.replicate k (Value.int .u8 y) ++ cs.toList.drop k).toArray 5 (0, 0))) ∧ Hid (Below w.heap.size w wi)) (fun v _ => n - (intOf v).toNat)
      case atStart => exact ⟨1, rfl, Nat.le_refl _, h1, HG1, HB1⟩
      case round =>
        obtain ⟨k, rfl, hk1, hkn, HK, HBK⟩ := hrel
        by_cases hlt : k < n
        · obtain ⟨ch, hch, hch1⟩ : ∃ ch : Nat, min (k : Int) (n : Int) = ch ∧ 1 ≤ ch ∧ ch ≤ k := ⟨k, by omega, by omega, by omega⟩
          obtain ⟨m, hm⟩ : ∃ m, Nat.min ch (n - k) = m := ⟨_, rfl⟩
          have hm2 : 1 ≤ m ∧ m ≤ ch ∧ m ≤ n - k := by rw [← hm]; simp only [Nat.min_def]; split <;> omega
          have hsA : ∀ W : World, (Instr.sliceAt 22 (.slice (some ⟨w.heap.size, 0, none⟩) n n) (some (.int .i64 k)) none none).run Tryd.prog W = .ok (.slice (some ⟨w.heap.size, k, none⟩) (n - k) (n - k)) W := fun W => by
            have := sl_l (some ⟨w.heap.size, 0, none⟩) n n k W (by omega) (Nat.le_refl _)
            rw [this]
            simp [cutA, Addr.add, show ¬ n - k = 0 by omega, show ¬ k = 0 by omega]
          have hsB : ∀ W : World, (Instr.sliceAt 22 (.slice (some ⟨w.heap.size, 0, none⟩) n n) none (some (.int .i64 ch)) none).run Tryd.prog W = .ok (.slice (some ⟨w.heap.size, 0, none⟩) ch n) W := fun W => sl_h (some ⟨w.heap.size, 0, none⟩) n n ch W (by omega)
          have hcpy := run_copy_row (P := Tryd.prog) (w := wr.drew) 22 22 3 5 w.heap.size k (n - k) (n - k) ⟨w.heap.size, 0, none⟩ ch n (List.replicate k (Value.int .u8 y) ++ cs.toList.drop k).toArray 5 (List.replicate m (Value.int .u8 y)) Tryd.underlying22 (by kernel_rfl) HK.out (by rw [List.length_replicate, hm]) (fun j v hj => by
            have hj2 : j < m := by
              have := (List.getElem?_eq_some_iff.1 hj).1
              simpa using this
            have e1 := cell_of_row wr w.heap.size j _ 5 _ HK.out
            rw [List.getElem?_toArray, List.getElem?_append_left (by simp; omega), List.getElem?_replicate, if_pos (by omega)] at e1
            rw [List.getElem?_replicate, if_pos hj2] at hj
            rw [← hj, ← e1]
            show wr.cell? ((⟨w.heap.size, 0, none⟩ : Addr).add j) = _
            by_cases hj0 : j = 0
            · subst hj0
              rfl
            · simp [Addr.add, hj0]) (by simp; omega) (fun v hv => by rw [List.eq_of_mem_replicate hv]; rfl)
          have HM := Lib.hid hm
          clear hm
          have hcpy2 : (Builtin.copy_ #[22, 22] 3 #[.slice (some ⟨w.heap.size, k, none⟩) (n - k) (n - k), .slice (some ⟨w.heap.size, 0, none⟩) ch n]).run Tryd.prog wr.drew = .ok (.int .i64 m) (wr.drew.setRow w.heap.size (List.replicate (k + m) (Value.int .u8 y) ++ cs.toList.drop (k + m)).toArray) := by
            rw [hcpy, rep_splice k m (Value.int .u8 y) cs.toList, List.length_replicate]
            rfl
          clear hcpy
          obtain ⟨X, hX⟩ : ∃ X, List.replicate (k + m) (Value.int .u8 y) ++ cs.toList.drop (k + m) = X := ⟨_, rfl⟩
          rw [hX] at hcpy2
          have HX2 := Lib.hid hX
          clear hX
          have hkm : (k : Int) + (m : Int) ≤ (n : Int) := by omega
          go_wp2_with fail
          go_region
          have HK2 : Hid ((wr.drew.setRow w.heap.size X.toArray).heap[w.heap.size]? = some (.cells (List.replicate (k + m) (Value.int .u8 y) ++ cs.toList.drop (k + m)).toArray 5 (0, 0))) := Lib.hid (by
            rw [HX2.out]
            exact setRow_heap wr.drew w.heap.size _ _ 5 _ HK.out)
          have HB2 : Hid (Below w.heap.size w (wr.drew.setRow w.heap.size X.toArray)) := Lib.hid (below_setRow HBK.out.drew (Nat.le_refl _) _)
          go_wp2
          go_roundw
          case rel => exact ⟨k + m, by go_num, by omega, by omega, HK2, HB2⟩
          case measure => simp [intOf] <;> omega
        · obtain rfl : k = n := by omega
          have hro : Rd wr (some ⟨w.heap.size, 0, none⟩) k k 1 (nums .u8 (List.replicate k y)) := ⟨by simp [nums_length], Nat.le_refl _, by unfold maxLen; omega, fun h => by simp at h, fun j u hj => ⟨_, rfl, by
            have hjk : j < k := by
              have := (List.getElem?_eq_some_iff.1 hj).1
              rw [nums_length] at this
              simpa using this
            have e1 := cell_of_row wr w.heap.size j _ 5 _ HK.out
            rw [List.getElem?_toArray, List.getElem?_append_left (by simpa using hjk), List.getElem?_replicate, if_pos hjk] at e1
            have e2 : u = .int .u8 y := by
              simp [nums, hjk] at hj
              exact hj.symm
            rw [e2, ← e1]
            by_cases hj0 : j = 0
            · subst hj0
              rfl
            · simp [Addr.add, hj0]⟩⟩
          have HRO := Lib.hid hro
          clear hro
          go_wp2
          go_ret
          exact ⟨_, _, rfl, HRO.out, HBK.out⟩
end Go.Proofs.YticebanhccgglaaDoor
