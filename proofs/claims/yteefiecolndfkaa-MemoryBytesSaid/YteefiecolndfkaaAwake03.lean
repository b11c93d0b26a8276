/- nostoslaw03: awake. -/
import Derived.Test.YteefiecolndfkaaRef03b
namespace Go.Proofs.Yteefiecolndfkaa
open Go.RowKit

theorem Cell_is (A : Option Addr) (c : Nat) (i : Int) (l : List Int) (w : World) (n : Nat) (r t : Int) (hn : l.length = n) (hr : cellR l i = r) (ht : cellE l.length i = t) (hx : RdI w .u8 A c l) (hb : isB l) :
    Calls Try.prog 9 #[.slice A n c, .int .i64 i] w fun e w' => e = .returned (.tuple #[.int .i64 r, .int .i64 t]) ∧ w = w' := by
  subst hn hr ht
  exact Cell_any A c i l w hx hb
theorem Byte_is (A : Option Addr) (c : Nat) (i : Int) (l : List Int) (w : World) (n : Nat) (r t : Int) (hn : l.length = n) (hr : byteR l i = r) (ht : byteE l.length i = t) (hx : RdI w .u8 A c l) (hb : isB l) :
    Calls Try.prog 12 #[.slice A n c, .int .i64 i] w fun e w' => e = .returned (.tuple #[.int .i64 r, .int .i64 t]) ∧ w = w' := by
  subst hn hr ht
  exact Byte_any A c i l w hx hb
theorem SetCell_is (A : Option Addr) (c : Nat) (i v : Int) (l : List Int) (w : World) (n : Nat) (r : List Int) (t : Int) (hn : l.length = n) (hr : setC l i v = r) (ht : cellE l.length i = t) (hx : RdI w .u8 A c l) (hl : l.length ≤ 140737488355328) :
    Calls Try.prog 10 #[.slice A n c, .int .i64 i, .int .i64 v] w fun e w' => ∃ A' c', e = .returned (.tuple #[.slice A' r.length c', .int .i64 t]) ∧ RdI w' .u8 A' c' r ∧ Below w.heap.size w w' := by
  subst hn hr ht
  refine (SetCell_any A c i v l w hx hl).mono ?_
  rintro e w' ⟨x, rfl, ho, hb⟩
  obtain ⟨A', c', rfl, hr⟩ := Rd.own ho
  exact ⟨A', c', rfl, hr, hb⟩
theorem SetByte_is (A : Option Addr) (c : Nat) (i v : Int) (l : List Int) (w : World) (n : Nat) (r : List Int) (t : Int) (hn : l.length = n) (hr : setB l i v = r) (ht : byteE l.length i = t) (hx : RdI w .u8 A c l) (hl : l.length ≤ 140737488355328) :
    Calls Try.prog 17 #[.slice A n c, .int .i64 i, .int .i64 v] w fun e w' => ∃ A' c', e = .returned (.tuple #[.slice A' r.length c', .int .i64 t]) ∧ RdI w' .u8 A' c' r ∧ Below w.heap.size w w' := by
  subst hn hr ht
  refine (SetByte_any A c i v l w hx hl).mono ?_
  rintro e w' ⟨x, rfl, ho, hb⟩
  obtain ⟨A', c', rfl, hr⟩ := Rd.own ho
  exact ⟨A', c', rfl, hr, hb⟩

theorem RefSetCell_is (A : Option Addr) (c : Nat) (i v : Int) (l : List Int) (w : World) (hx : RdI w .u8 A c l) (hb : isB l) (hl : l.length ≤ 140737488355328) :
    Calls Try.prog 16 #[.slice A l.length c, .int .i64 i, .int .i64 v] w fun e w' => ∃ A' c', e = .returned (.tuple #[.slice A' (setC l i v).length c', .int .i64 (cellE l.length i)]) ∧ RdI w' .u8 A' c' (setC l i v) ∧ Below w.heap.size w w' := by
  refine (RefSetCell_any A c i v l w hx hb hl).mono ?_
  rintro e w' ⟨x, rfl, ho, hb⟩
  obtain ⟨A', c', rfl, hr⟩ := Rd.own ho
  exact ⟨A', c', rfl, hr, hb⟩
theorem RefSetByte_is (A : Option Addr) (c : Nat) (i v : Int) (l : List Int) (w : World) (hx : RdI w .u8 A c l) (hl : l.length ≤ 140737488355328) :
    Calls Try.prog 18 #[.slice A l.length c, .int .i64 i, .int .i64 v] w fun e w' => ∃ A' c', e = .returned (.tuple #[.slice A' (setB l i v).length c', .int .i64 (byteE l.length i)]) ∧ RdI w' .u8 A' c' (setB l i v) ∧ Below w.heap.size w w' := by
  refine (RefSetByte_any A c i v l w hx hl).mono ?_
  rintro e w' ⟨x, rfl, ho, hb⟩
  obtain ⟨A', c', rfl, hr⟩ := Rd.own ho
  exact ⟨A', c', rfl, hr, hb⟩

theorem isB_dec (l : List Int) (h : (l.all fun x => decide (0 ≤ x) && decide (x < 256)) = true) : isB l := by
  intro x hx
  have := List.all_eq_true.1 h x hx
  simpa using this

set_option maxHeartbeats 1000000 in
theorem awake_any (w : World) : Calls Try.prog 8 #[] w fun e w' => e = .returned (.bool true) ∧ Below w.heap.size w w' := by
  have hmk : ∀ W : World, (Instr.makeSlice 22 (.int .i64 16) (.int .i64 16)).run Try.prog W = .ok (.slice (some ⟨W.heap.size, 0, none⟩) 16 16) (W.alloc (.cells (nums .u8 (List.replicate 16 0)).toArray 5 (0, 0))) :=
    make_nums (P := Try.prog) 22 5 .u8 1 Try.underlying22 infoU8 16 (by omega) (by omega)
  go_enter Try.func8, Try.ntmps8
  go_wp2_with fail
  refine (SetCell_is (some ⟨w.heap.size, 0, none⟩) 16 8 258 (List.replicate 16 0) _ 16 [0, 0, 0, 0, 0, 0, 0, 0, 2, 1, 0, 0, 0, 0, 0, 0] 0 rfl (by decide) (by decide) (rd_alloc w (nums .u8 (List.replicate 16 0)) (nums .u8 (List.replicate 16 0)).toArray 5 (0, 0) _ _ _ rfl rfl (by decide) (by decide)) (by decide)).mono ?_
  rintro e w1 ⟨A, c, rfl, hx, hb⟩
  have HX := Lib.hid hx
  have HB := Lib.hid (below_two ((Below.refl _ _).alloc (Nat.le_refl _) _) hb)
  clear hx hb hmk
  have h1 : isB [0, 0, 0, 0, 0, 0, 0, 0, 2, 1, 0, 0, 0, 0, 0, 0] := isB_dec _ (by decide)
  have H1 := Lib.hid h1
  clear h1
  go_wp2_with (first
    | (go_at_call 9; (first
        | (with_reducible refine (Cell_is A c 8 _ _ 16 258 0 rfl (by decide +kernel) (by decide +kernel) HX.out H1.out).mono ?_)
        | (with_reducible refine (Cell_is A c 9 _ _ 16 0 (-9) rfl (by decide +kernel) (by decide +kernel) HX.out H1.out).mono ?_)); rintro e w' ⟨rfl, rfl⟩)
    | (go_at_call 12; (first
        | (with_reducible refine (Byte_is A c 9 _ _ 16 1 0 rfl (by decide +kernel) (by decide +kernel) HX.out H1.out).mono ?_)
        | (with_reducible refine (Byte_is A c 16 _ _ 16 0 (-9) rfl (by decide +kernel) (by decide +kernel) HX.out H1.out).mono ?_)); rintro e w' ⟨rfl, rfl⟩))
  go_ret
  exact ⟨rfl, HB.out⟩
end Go.Proofs.Yteefiecolndfkaa
