/- The contracts of package stack and of its reference, in the form that the laws use. -/
import Derived.Test.YtfoolkidcdoicaaRef04
import Derived.Test.YtfoolkidcdoicaaKept
namespace Go.Proofs.Ytfoolkidcdoicaa
open Go.RowKit

theorem Push_is (A B : Option Addr) (c cb : Nat) (depth : Int) (l v : List Int) (w : World) (n m : Nat) (r : List Int) (t : Int) (hn : l.length = n) (hm : v.length = m) (hr : pushR l v depth = r) (ht : pushE l.length v.length depth = t) (hx : RdI w .i64 A c l) (hy : RdI w .i64 B cb v) (hl : (n + m + 1) * 8 ≤ 140737488355328) :
    Calls Try.prog 9 #[.slice A n c, .int .i64 depth, .slice B m cb] w fun e w' => ∃ A' c', e = .returned (.tuple #[.slice A' r.length c', .int .i64 t]) ∧ RdI w' .i64 A' c' r ∧ Below w.heap.size w w' := by
  subst hn hm hr ht
  refine (Push_any A B c cb depth l v w hx hy (by omega)).mono ?_
  rintro e w' ⟨x, rfl, ho, hb⟩
  obtain ⟨A', c', rfl, hr⟩ := Rd.own ho
  exact ⟨A', c', rfl, hr, hb⟩
theorem Pop_is (A : Option Addr) (c : Nat) (many : Int) (l : List Int) (w : World) (n : Nat) (r1 r2 : List Int) (t : Int) (hn : l.length = n) (h1 : popR l many = r1) (h2 : popT l many = r2) (ht : popE l.length many = t) (hx : RdI w .i64 A c l) (hm : many ≤ 9223372036854775807) :
    Calls Try.prog 11 #[.slice A n c, .int .i64 many] w fun e w' => ∃ A1 c1 A2 c2, e = .returned (.tuple #[.slice A1 r1.length c1, .slice A2 r2.length c2, .int .i64 t]) ∧ RdI w' .i64 A1 c1 r1 ∧ RdI w' .i64 A2 c2 r2 ∧ Below w.heap.size w w' := by
  subst hn h1 h2 ht
  refine (Pop_any A c many l w hx hm).mono ?_
  rintro e w' ⟨A1, c1, A2, c2, rfl, h1, h2, k, rfl⟩
  exact ⟨A1, c1, A2, c2, rfl, h1, h2, below_drewN w k⟩
theorem Roll_is (A : Option Addr) (c : Nat) (i : Int) (l : List Int) (w : World) (n : Nat) (r : List Int) (t : Int) (hn : l.length = n) (hr : rollR l i = r) (ht : atE l.length i = t) (hx : RdI w .i64 A c l) (hl : (n + 1) * 8 ≤ 140737488355328) :
    Calls Try.prog 16 #[.slice A n c, .int .i64 i] w fun e w' => ∃ A' c', e = .returned (.tuple #[.slice A' r.length c', .int .i64 t]) ∧ RdI w' .i64 A' c' r ∧ Below w.heap.size w w' := by
  subst hn hr ht
  refine (Roll_any A c i l w hx (by omega)).mono ?_
  rintro e w' ⟨x, rfl, ho, hb⟩
  obtain ⟨A', c', rfl, hr⟩ := Rd.own ho
  exact ⟨A', c', rfl, hr, hb⟩

theorem RPush_is (A B : Option Addr) (c cb : Nat) (depth : Int) (l v : List Int) (w : World) (n m : Nat) (r : List Int) (t : Int) (hn : l.length = n) (hm : v.length = m) (hr : pushR l v depth = r) (ht : pushE l.length v.length depth = t) (hx : RdI w .i64 A c l) (hy : RdI w .i64 B cb v) (hl : (n + m + 1) * 8 ≤ 140737488355328) :
    Calls Try.prog 10 #[.slice A n c, .int .i64 depth, .slice B m cb] w fun e w' => ∃ A' c', e = .returned (.tuple #[.slice A' r.length c', .int .i64 t]) ∧ RdI w' .i64 A' c' r ∧ Below w.heap.size w w' := by
  subst hn hm hr ht
  refine (RPush_any A B c cb depth l v w hx hy (by omega)).mono ?_
  rintro e w' ⟨x, rfl, ho, hb⟩
  obtain ⟨A', c', rfl, hr⟩ := Rd.own ho
  exact ⟨A', c', rfl, hr, hb⟩
theorem RPop_is (A : Option Addr) (c : Nat) (many : Int) (l : List Int) (w : World) (n : Nat) (r1 r2 : List Int) (t : Int) (hn : l.length = n) (h1 : popR l many = r1) (h2 : popT l many = r2) (ht : popE l.length many = t) (hx : RdI w .i64 A c l) (hm : many ≤ 9223372036854775807) :
    Calls Try.prog 12 #[.slice A n c, .int .i64 many] w fun e w' => ∃ A1 c1 A2 c2, e = .returned (.tuple #[.slice A1 r1.length c1, .slice A2 r2.length c2, .int .i64 t]) ∧ RdI w' .i64 A1 c1 r1 ∧ RdI w' .i64 A2 c2 r2 ∧ Below w.heap.size w w' := by
  subst hn h1 h2 ht
  refine (RPop_any A c many l w hx hm).mono ?_
  rintro e w' ⟨A1, c1, A2, c2, rfl, h1, h2, k, rfl⟩
  exact ⟨A1, c1, A2, c2, rfl, h1, h2, below_drewN w k⟩
theorem RRoll_is (A : Option Addr) (c : Nat) (i : Int) (l : List Int) (w : World) (n : Nat) (r : List Int) (t : Int) (hn : l.length = n) (hr : rollR l i = r) (ht : atE l.length i = t) (hx : RdI w .i64 A c l) (hl : (n + 1) * 8 ≤ 140737488355328) :
    Calls Try.prog 17 #[.slice A n c, .int .i64 i] w fun e w' => ∃ A' c', e = .returned (.tuple #[.slice A' r.length c', .int .i64 t]) ∧ RdI w' .i64 A' c' r ∧ Below w.heap.size w w' := by
  subst hn hr ht
  refine (RRoll_any A c i l w hx (by omega)).mono ?_
  rintro e w' ⟨x, rfl, ho, hb⟩
  obtain ⟨A', c', rfl, hr⟩ := Rd.own ho
  exact ⟨A', c', rfl, hr, hb⟩

/-- What is picked. -/
def pickR (l : List Int) (i : Int) : Int := if atE l.length i = 0 then l.getD (atR l.length i).toNat 0 else 0
theorem Pick_is (A : Option Addr) (c : Nat) (i : Int) (l : List Int) (w : World) (n : Nat) (r t : Int) (hn : l.length = n) (hr : pickR l i = r) (ht : atE l.length i = t) (hx : RdI w .i64 A c l) :
    Calls Try.prog 14 #[.slice A n c, .int .i64 i] w fun e w' => e = .returned (.tuple #[.int .i64 r, .int .i64 t]) ∧ Below w.heap.size w w' := by
  subst hn hr ht
  exact Pick_any A c i l w hx
theorem RPick_is (A : Option Addr) (c : Nat) (i : Int) (l : List Int) (w : World) (n : Nat) (r t : Int) (hn : l.length = n) (hr : pickR l i = r) (ht : atE l.length i = t) (hx : RdI w .i64 A c l) :
    Calls Try.prog 15 #[.slice A n c, .int .i64 i] w fun e w' => e = .returned (.tuple #[.int .i64 r, .int .i64 t]) ∧ w = w' := by
  subst hn hr ht
  exact RPick_any A c i l w hx
theorem Same_is (A B : Option Addr) (c cb : Nat) (l r : List Int) (w : World) (n m : Nat) (b : Bool) (hn : l.length = n) (hm : r.length = m) (hb : decide (l = r) = b) (hx : RdI w .i64 A c l) (hy : RdI w .i64 B cb r) :
    Calls Try.prog 13 #[.slice A n c, .slice B m cb] w fun e w' => e = .returned (.bool b) ∧ Below w.heap.size w w' := by
  subst hn hm
  refine (Same_any A B c cb l r b w hb hx hy).mono ?_
  rintro e w' ⟨rfl, k, rfl⟩
  exact ⟨rfl, below_drewN w k⟩
end Go.Proofs.Ytfoolkidcdoicaa
