/- nostosref16: ReadText, End; awake. -/
import Derived.Test.YtaegphgjdffgaaaRRead16
import Derived.Test.YtaegphgjdffgaaaRdr16
namespace Go.Proofs.Ytaegphgjdffgaaa
open Go.RowKit

theorem sl_lh (A : Option Addr) (n c i j : Nat) (w : World) (h : i ≤ j) (h2 : j ≤ c) : (Instr.sliceAt 22 (.slice A n c) (some (.int .i64 i)) (some (.int .i64 j)) none).run Try.prog w = .ok (.slice (cutA A i (c - i)) (j - i) (c - i)) w := by
  have e2 : Try.prog.elem 22 = 5 := by kernel_rfl
  have ht : Try.prog.underlying 22 = some (.slice (Try.prog.elem 22)) := by rw [e2]; exact Try.underlying22
  rw [run_sliceAt_slice _ _ _ _ _ _ ht, run_slice_lh _ _ _ _ _ ht .i64 .i64 i j (by omega) (by omega) (by omega), e2, Try.sizeOf5 w]
  simp only [Result.andThen, sliced, Int.toNat_natCast, Nat.mul_one, cutA]
  by_cases hc : c = i
  · rw [if_pos hc, if_pos (by omega)]
  · rw [if_neg hc, if_neg (by omega)]

/-- A variable for a reader of the reference, still zero. -/
structure Box3 (w : World) (g : Nat) : Prop where
  k1 : w.cell? ⟨g, 0, none⟩ = some (.slice none 0 0)
  k2 : w.cell? ⟨g, 1, none⟩ = some (.int .i64 0)
  k3 : w.cell? ⟨g, 2, none⟩ = some (.int .i64 0)
  k4 : w.frozen? ⟨g, 0, none⟩ = false
  k5 : w.frozen? ⟨g, 1, none⟩ = false
  k6 : w.frozen? ⟨g, 2, none⟩ = false
theorem Box3.below {w w' : World} {g : Nat} (h : Box3 w g) (hg : g < w.heap.size) (hb : Below w.heap.size w w') : Box3 w' g :=
  ⟨(hb.cell hg).trans h.k1, (hb.cell hg).trans h.k2, (hb.cell hg).trans h.k3, (hb.frozen hg).trans h.k4, (hb.frozen hg).trans h.k5, (hb.frozen hg).trans h.k6⟩

set_option maxHeartbeats 1000000 in
set_option maxRecDepth 100000 in
theorem ReadText_any (A : Option Addr) (c : Nat) (l : List Int) (at_ : Nat) (bad hi : Int) (w : World) (hx : RdI w .u8 A c l) (hb : ∀ x ∈ l, 0 ≤ x ∧ x < 256) (hat : at_ ≤ l.length) (t : List Int) (l2 : List Int) (e2 : Int) (hr : textS (l.drop at_) bad hi = (t, l2, e2)) (hlen : l.length ≤ 1000000) :
    Calls Try.prog 14 #[.agg #[.slice A l.length c, .int .i64 at_, .int .i64 bad], .int .i64 hi] w fun r w' => ∃ (at2 : Nat) (A1 : Option Addr) (c1 : Nat), r = .returned (.tuple #[.agg #[.slice A l.length c, .int .i64 at2, .int .i64 e2], .slice A1 t.length c1]) ∧ RdI w' .u8 A1 c1 t ∧ (∀ g, Dat w g A c l → Dat w' g A1 c1 t) ∧ at2 ≤ l.length ∧ l2 = l.drop at2 ∧ Below w.heap.size w w' := by
  obtain ⟨n, l1, e1, hq⟩ : ∃ n l1 e1, readS (l.drop at_) bad 0 hi = (n, l1, e1) := ⟨_, _, _, rfl⟩
  have hok := readS_ok (l.drop at_) bad 0 hi
  unfold textS at hr
  rw [hq] at hr hok
  simp only at hr hok
  have HX := Lib.hid hx
  have HQ := Lib.hid hq
  have hcp := hx.le
  have hcm := hx.cap
  unfold maxLen at hcm
  have HB := Lib.hid (below_two (below_lit w (.cells #[.slice A l.length c, .int .i64 at_, .int .i64 bad] 31)) (below_lit _ (.cells #[.slice none 0 0, .int .i64 0, .int .i64 0] 31)))
  clear hx hq
  go_enter Try.func14, Try.ntmps14
  go_wp2_with fail
  refine (Read_any A c l at_ bad 0 hi _ (HX.out.below HB.out) hb hat n l1 e1 HQ.out hlen).mono ?_
  rintro r w1 ⟨at1, rfl, hat1, rfl, hb1⟩
  have KEY : Hid (∀ X Y, Box3 (w1.alloc (.cells #[.slice A l.length c, .int .i64 X, .int .i64 Y] 31)) (w.heap.size + 1)) := Lib.hid (fun X Y => Box3.below (Box3.below ⟨by go_simp, by go_simp, by go_simp, by go_simp, by go_simp, by go_simp⟩ (by simp) hb1) (Nat.lt_of_lt_of_le (by simp) hb1.size) (below_lit w1 _))
  have HB1 := Lib.hid (below_two HB.out hb1)
  clear hb1
  by_cases he : e1 = 0
  · subst he
    rw [if_neg (by decide)] at hr
    obtain ⟨hn0, hn1⟩ := hok rfl
    obtain ⟨k, rfl⟩ := Int.eq_ofNat_of_zero_le hn0
    rw [List.length_drop] at hr
    by_cases hlt : ((l.length - at1 : Nat) : Int) < k
    · rw [if_pos hlt] at hr
      injection hr with q1 q2
      injection q2 with q2 q3
      subst q1 q2 q3
      clear hok
      obtain ⟨k1, k2, k3, k4, k5, k6⟩ := KEY.out ((at1:Int)) 3
      go_wp2
      refine bodyPost_ret (v := .tuple #[.agg #[.slice A l.length c, .int .i64 ((at1:Int)), .int .i64 3], .slice none 0 0]) (by rw [results_cell_tmp Try.results14]; simp [loadVar, go_sem, k1, k2, k3, k4, k5, k6]) rfl ?_
      have HBZ : Hid (Below w.heap.size w ((((w1.alloc (.cells #[.slice A l.length c, .int .i64 ((at1:Int)), .int .i64 3] 31)).setCell ⟨w.heap.size + 1, 0, none⟩ (.slice A l.length c)).setCell ⟨w.heap.size + 1, 1, none⟩ (.int .i64 ((at1:Int)))).setCell ⟨w.heap.size + 1, 2, none⟩ (.int .i64 3))) := Lib.hid ((((below_two HB1.out (below_lit w1 _)).setCell (by show w.heap.size ≤ w.heap.size + 1; omega) _).setCell (by show w.heap.size ≤ w.heap.size + 1; omega) _).setCell (by show w.heap.size ≤ w.heap.size + 1; omega) _)
      exact ⟨at1, none, 0, rfl, rd_nil _ _, fun g _ => ⟨rd_nil _ _, fun h => absurd h (by decide)⟩, hat1, rfl, HBZ.out⟩
    · rw [if_neg hlt, Int.toNat_natCast, List.drop_drop] at hr
      injection hr with q1 q2
      injection q2 with q2 q3
      subst q1 q2 q3
      have hs := fun w => sl_lh A l.length c at1 (at1 + k) w (by omega) (by omega)
      have hs' : ∀ w, (Instr.sliceAt 22 (.slice A l.length c) (some (.int .i64 at1)) (some (.int .i64 ((at1 : Int) + k))) none).run Try.prog w = .ok (.slice (cutA A at1 (c - at1)) k (c - at1)) w := fun w => by
        have := hs w
        rw [show at1 + k - at1 = k by omega] at this
        exact this
      have hlen2 : ((l.drop at1).take k).length = k := by rw [List.length_take, List.length_drop]; omega
      have HL := Lib.hid hlen2
      clear hok hs hlen2
      obtain ⟨k1, k2, k3, k4, k5, k6⟩ := KEY.out (((at1:Int)+k)) 0
      go_wp2
      refine bodyPost_ret (v := .tuple #[.agg #[.slice A l.length c, .int .i64 (((at1:Int)+k)), .int .i64 0], .slice (cutA A at1 (c - at1)) k (c - at1)]) (by rw [results_cell_tmp Try.results14]; simp [loadVar, go_sem, k1, k2, k3, k4, k5, k6]) rfl ?_
      have HBZ : Hid (Below w.heap.size w ((((w1.alloc (.cells #[.slice A l.length c, .int .i64 (((at1:Int)+k)), .int .i64 0] 31)).setCell ⟨w.heap.size + 1, 0, none⟩ (.slice A l.length c)).setCell ⟨w.heap.size + 1, 1, none⟩ (.int .i64 (((at1:Int)+k)))).setCell ⟨w.heap.size + 1, 2, none⟩ (.int .i64 0))) := Lib.hid ((((below_two HB1.out (below_lit w1 _)).setCell (by show w.heap.size ≤ w.heap.size + 1; omega) _).setCell (by show w.heap.size ≤ w.heap.size + 1; omega) _).setCell (by show w.heap.size ≤ w.heap.size + 1; omega) _)
      exact ⟨at1 + k, _, _, by rw [HL.out]; rfl, RdI.cut (HX.out.below HBZ.out) at1 k (c - at1) (by omega) (by omega) (by omega), fun g hd => (hd.only (Only.of HBZ.out)).cut at1 k (c - at1) (by omega) (by omega) (by omega), by omega, by first | rfl | rw [Nat.add_comm], HBZ.out⟩
  · rw [if_pos he] at hr
    injection hr with q1 q2
    injection q2 with q2 q3
    subst q1 q2 q3
    have hb2 : (e1 != 0) = true := by simpa using he
    clear he hok
    obtain ⟨k1, k2, k3, k4, k5, k6⟩ := KEY.out ((at1:Int)) e1
    go_wp2
    refine bodyPost_ret (v := .tuple #[.agg #[.slice A l.length c, .int .i64 ((at1:Int)), .int .i64 e1], .slice none 0 0]) (by rw [results_cell_tmp Try.results14]; simp [loadVar, go_sem, k1, k2, k3, k4, k5, k6]) rfl ?_
    have HBZ : Hid (Below w.heap.size w ((((w1.alloc (.cells #[.slice A l.length c, .int .i64 ((at1:Int)), .int .i64 e1] 31)).setCell ⟨w.heap.size + 1, 0, none⟩ (.slice A l.length c)).setCell ⟨w.heap.size + 1, 1, none⟩ (.int .i64 ((at1:Int)))).setCell ⟨w.heap.size + 1, 2, none⟩ (.int .i64 e1))) := Lib.hid ((((below_two HB1.out (below_lit w1 _)).setCell (by show w.heap.size ≤ w.heap.size + 1; omega) _).setCell (by show w.heap.size ≤ w.heap.size + 1; omega) _).setCell (by show w.heap.size ≤ w.heap.size + 1; omega) _)
    exact ⟨at1, none, 0, rfl, rd_nil _ _, fun g _ => ⟨rd_nil _ _, fun h => absurd h (by decide)⟩, hat1, rfl, HBZ.out⟩

set_option maxHeartbeats 1000000 in
theorem REnd_any (A : Option Addr) (c : Nat) (l : List Int) (at_ : Nat) (bad : Int) (w : World) (hat : at_ ≤ l.length) (r0 : Int) (hr : endS (l.drop at_) bad = r0) :
    Calls Try.prog 20 #[.agg #[.slice A l.length c, .int .i64 at_, .int .i64 bad]] w fun r w' => r = .returned (.int .i64 r0) ∧ Below w.heap.size w w' := by
  unfold endS at hr
  rw [List.length_drop] at hr
  by_cases he : bad = 0
  · subst he
    by_cases hl : 0 < l.length - at_
    · rw [if_pos ⟨rfl, hl⟩] at hr
      subst hr
      go_enter Try.func20, Try.ntmps20
      go_wp2
      go_ret
      exact ⟨rfl, below_lit _ _⟩
    · rw [if_neg (by omega)] at hr
      subst hr
      go_enter Try.func20, Try.ntmps20
      go_wp2
      go_ret
      exact ⟨rfl, below_lit _ _⟩
  · rw [if_neg (by omega)] at hr
    subst hr
    have hb2 : (bad == 0) = false := by simpa using he
    go_enter Try.func20, Try.ntmps20
    go_wp2
    go_ret
    exact ⟨rfl, below_lit _ _⟩
end Go.Proofs.Ytaegphgjdffgaaa
