
/- rle.first. -/
import Derived.Test.YticebanhccgglaaDoorRep17
import Derived.Test.YticebanhccgglaaDoorRNum16
import Derived.OwnWalk
namespace Go.Proofs.YticebanhccgglaaDoor
open Go.RowKit

theorem readS_n64 {l : List Int} {lo hi n : Int} {l2 : List Int} {e : Int} (h : readS l 0 lo hi = (n, l2, e)) (h0 : -9223372036854775808 ≤ lo) (h1 : hi ≤ 9223372036854775807) : -9223372036854775808 ≤ n ∧ n ≤ 9223372036854775807 := by
  by_cases he : e = 0
  · subst he
    have := readS_bnd h
    omega
  · have hn : n = 0 := by
      unfold readS at h
      rw [if_neg (by decide)] at h
      split at h
      · simp only [Prod.mk.injEq] at h
        exact h.1.symm
      · split at h
        · simp only [Prod.mk.injEq] at h
          exact h.1.symm
        · simp only [Prod.mk.injEq] at h
          exact absurd h.2.2.symm he
    omega

set_option maxHeartbeats 1000000 in
theorem First_any (A : Option Addr) (c N : Nat) (l : List Int) (most : Int) (n : Int) (l2 : List Int) (e2 : Int) (k : Nat) (w : World) (hN : l.length = N) (hx : RdI w .u8 A c l) (hb : ∀ x ∈ l, 0 ≤ x ∧ x < 256) (hlen : N ≤ 1000000) (hm : most ≤ 9223372036854775807) (hr : readS l 0 1 most = (n, l2, e2)) (hk : (grp (zz n)).length = k) :
    Calls Tryd.prog 17 #[.slice A N c, .int .i64 most] w fun e w' => e = .returned (.tuple #[.int .i64 n, .int .i64 k, .int .i64 e2]) ∧ Below w.heap.size w w' := by
  have hn64 := readS_n64 hr (by decide) hm
  have HX := Lib.hid hx
  have HB := Lib.hid hb
  have HR := Lib.hid hr
  have HK := Lib.hid hk
  have HN := Lib.hid hN
  clear hx hb hr hk hN
  go_enter Tryd.func17, Tryd.ntmps17
  go_wp2_with fail
  refine (New_any A c N l w HN.out (by have := HX.out; unfold RdI at this; rw [HN.out] at this; exact this) HB.out).mono ?_
  rintro e w1 ⟨g, rfl, rfl, h1, hb1⟩
  have HB1 := Lib.hid hb1
  have H1 := Lib.hid h1
  clear hb1 h1
  go_wp2_with fail
  refine (RdNum_any w.heap.size A c l 0 1 most w1 H1.out n l2 e2 HR.out (by rw [HN.out]; exact hlen)).mono ?_
  rintro e w2 ⟨rfl, A2, c2, h2, ho⟩
  have H2 := Lib.hid h2
  have HB2 : Hid (Below w.heap.size w w2) := Lib.hid (HB1.out.trans (ho.below (Nat.le_refl _) HB1.out.size))
  clear h2 ho
  go_wp2_with fail
  refine (Num_any n w2 hn64.1 hn64.2 (grp (zz n)) k rfl HK.out).mono ?_
  rintro e w3 ⟨x, rfl, ho, hb3⟩
  obtain ⟨A3, c3, rfl, _⟩ := Rd.own ho
  have HB3 := Lib.hid (below_two HB2.out hb3)
  have H3 := Lib.hid (H2.out.below hb3)
  clear ho hb3
  go_wp2_with fail
  refine (Err_any w.heap.size e2 w3 H3.out.st.c1).mono ?_
  rintro e w4 ⟨rfl, rfl⟩
  go_wp2
  go_ret3
  exact ⟨rfl, HB3.out⟩
end Go.Proofs.YticebanhccgglaaDoor
