
/- nostoslaw17: the calls, as the laws want them; awake. -/
import Derived.Test.YticebanhccgglaaDoorPutB17
import Derived.Test.YticebanhccgglaaDoorTake17
import Derived.Test.YticebanhccgglaaDoorRTake17
import Derived.Test.YticebanhccgglaaDoorRPut17
import Derived.Test.YticebanhccgglaaDoorPlain17d
namespace Go.Proofs.YticebanhccgglaaDoor
open Go.RowKit

theorem conv_all {w : World} {A : Option Addr} {n c : Nat} {l : List Int} (hn : l.length = n) (h : Rd w A n c 1 (nums .u8 l)) : ∀ w', Below w.heap.size w w' → (convert 22 9 (.slice A n c)).run Tryd.prog w' = .ok (.string (strOf l)) w' := fun w' hb => by
  subst hn
  exact conv_rd Tryd.underlying22 Tryd.underlying5 Tryd.underlying9 (h.below hb)
theorem Put_is (A : Option Addr) (c n : Nat) (l P : List Int) (k : Nat) (w : World) (hN : l.length = n) (hP : putR l = P) (hk : P.length = k) (hx : Rd w A n c 1 (nums .u8 l)) (hb : ∀ x ∈ l, 0 ≤ x ∧ x < 256) (hn : n ≤ 1000000) :
    Calls Tryd.prog 9 #[.slice A n c] w fun e w' => ∃ A' c', e = .returned (.slice A' k c') ∧ Rd w' A' k c' 1 (nums .u8 P) ∧ Below w.heap.size w w' := by
  subst hN
  refine (Put_any A c l.length l P k w rfl hx hb hn hP hk).mono ?_
  rintro e w' ⟨x, rfl, ho, hbl⟩
  obtain ⟨A', c', rfl, hr⟩ := Rd.own ho
  exact ⟨A', c', rfl, hr, hbl⟩
theorem RPut_is (A : Option Addr) (c n : Nat) (l P : List Int) (k : Nat) (w : World) (hN : l.length = n) (hP : putR l = P) (hk : P.length = k) (hx : Rd w A n c 1 (nums .u8 l)) (hn : n ≤ 1000000) :
    Calls Tryd.prog 10 #[.slice A n c] w fun e w' => ∃ A' c', e = .returned (.slice A' k c') ∧ Rd w' A' k c' 1 (nums .u8 P) ∧ Below w.heap.size w w' := by
  subst hN hP hk
  refine (RPut_any A c l.length l w rfl hx hn).mono ?_
  rintro e w' ⟨x, rfl, ho, hbl⟩
  obtain ⟨A', c', rfl, hr⟩ := Rd.own ho
  exact ⟨A', c', rfl, hr, hbl⟩
theorem Take_is (A : Option Addr) (c n : Nat) (l : List Int) (many : Int) (P : List Int) (k : Nat) (er : Int) (w : World) (hN : l.length = n) (hf : takeT many l = (P, er)) (hk : P.length = k) (hx : Rd w A n c 1 (nums .u8 l)) (hb : ∀ x ∈ l, 0 ≤ x ∧ x < 256) (hn : n ≤ 1000000) (hm : many ≤ 1000000) :
    Calls Tryd.prog 11 #[.slice A n c, .int .i64 many] w fun e w' => ∃ A' c', e = .returned (.tuple #[.slice A' k c', .int .i64 er]) ∧ Rd w' A' k c' 1 (nums .u8 P) ∧ Below w.heap.size w w' := by
  subst hN hk
  refine (Take_any A c l.length l many (P, er) w rfl hx hb hn hm hf).mono ?_
  rintro e w' ⟨x, rfl, ho, hbl⟩
  obtain ⟨A', c', rfl, hr⟩ := Rd.own ho
  exact ⟨A', c', rfl, hr, hbl⟩
theorem RTake_is (A : Option Addr) (c n : Nat) (l : List Int) (many : Int) (P : List Int) (k : Nat) (er : Int) (w : World) (hN : l.length = n) (hf : takeT many l = (P, er)) (hk : P.length = k) (hx : Rd w A n c 1 (nums .u8 l)) (hb : ∀ x ∈ l, 0 ≤ x ∧ x < 256) (hn : n ≤ 1000000) (hm : many ≤ 1000000) :
    Calls Tryd.prog 12 #[.slice A n c, .int .i64 many] w fun e w' => ∃ A' c', e = .returned (.tuple #[.slice A' k c', .int .i64 er]) ∧ Rd w' A' k c' 1 (nums .u8 P) ∧ Below w.heap.size w w' := by
  subst hN hk
  refine (RTake_any A c l many (P, er) w hx hb hn hm hf).mono ?_
  rintro e w' ⟨x, rfl, ho, hbl⟩
  obtain ⟨A', c', rfl, hr⟩ := Rd.own ho
  exact ⟨A', c', rfl, hr, hbl⟩
theorem encR_range (p : Nat × Int) (h : 0 ≤ p.2 ∧ p.2 < 256) : ∀ x ∈ encR p, 0 ≤ x ∧ x < 256 := by
  intro x hx
  unfold encR at hx
  rcases List.mem_append.1 hx with hx | hx
  · exact grp_range _ x hx
  · rw [List.mem_singleton] at hx
    subst hx
    exact h
theorem putR_range : ∀ (k : Nat) (l : List Int), l.length ≤ k → (∀ x ∈ l, 0 ≤ x ∧ x < 256) → ∀ x ∈ putR l, 0 ≤ x ∧ x < 256
  | _, [], _, _ => by rw [putR_nil]; simp
  | 0, x :: r, h, _ => by simp at h
  | k + 1, x :: r, h, hb => by
    intro z hz
    rw [putR_cons] at hz
    rcases List.mem_append.1 hz with hz | hz
    · exact encR_range _ (hb x (by simp)) z hz
    · exact putR_range k _ (by simp at h ⊢; omega) (fun y hy => hb y (by simp [List.mem_of_mem_drop hy])) z hz

set_option maxHeartbeats 1000000 in
set_option maxRecDepth 100000 in
theorem awake_any (w : World) : Calls Tryd.prog 8 #[] w fun e w' => e = .returned (.bool true) ∧ Below w.heap.size w w' := by
  have hs1 : (strOf [6, 0, 2, 7]) = ⟨#[6, 0, 2, 7]⟩ := by decide +kernel
  have hs2 : (strOf [0, 0, 0, 7]) = ⟨#[0, 0, 0, 7]⟩ := by decide +kernel
  have H1 := Lib.hid hs1
  have H2 := Lib.hid hs2
  clear hs1 hs2
  have HR0 := Lib.hid (rd_lit w .u8 [0, 0, 0, 7] #[.int .u8 0, .int .u8 0, .int .u8 0, .int .u8 7] 5 _ rfl rfl (by decide))
  have HB0 := Lib.hid (below_lit w (.cells #[.int .u8 0, .int .u8 0, .int .u8 0, .int .u8 7] 5))
  go_enter Tryd.func8, Tryd.ntmps8
  go_wp2_with fail
  refine (Put_is _ 4 4 [0, 0, 0, 7] [6, 0, 2, 7] 4 _ rfl put_sample rfl HR0.out (by decide) (by decide)).mono ?_
  rintro e w1 ⟨A1, c1, rfl, hr, hb⟩
  have HR1 := Lib.hid hr
  have HB1 := Lib.hid (below_two HB0.out hb)
  clear hr hb
  go_wp2_with fail
  refine (Take_is A1 c1 4 [6, 0, 2, 7] 4 [0, 0, 0, 7] 4 0 _ rfl take_sample4 rfl HR1.out (by decide) (by decide) (by decide)).mono ?_
  rintro e w2 ⟨A2, c2, rfl, hr, hb⟩
  have HR2 := Lib.hid hr
  have HB2 := Lib.hid (below_two HB1.out hb)
  have HR1 := Lib.hid (HR1.out.below hb)
  clear hr hb
  go_wp2_with fail
  refine (Take_is A1 c1 4 [6, 0, 2, 7] 3 [] 0 2 _ rfl take_sample3 rfl HR1.out (by decide) (by decide) (by decide)).mono ?_
  rintro e w3 ⟨A3, c3, rfl, hr, hb⟩
  have HR2 := Lib.hid (HR2.out.below hb)
  have HB3 := Lib.hid (below_two HB2.out hb)
  have HR1 := Lib.hid (HR1.out.below hb)
  clear hr hb
  have q1 := conv_all (n := 4) rfl HR1.out
  have q2 := conv_all (n := 4) rfl HR2.out
  rw [H1.out] at q1
  rw [H2.out] at q2
  have p1 : ∀ w : World, (convert 22 9 (.slice (some ⟨w.heap.size, 0, none⟩) 4 4)).run Tryd.prog (w.alloc (.cells #[.int .u8 6, .int .u8 0, .int .u8 2, .int .u8 7] 5)) = .ok (.string ⟨#[6, 0, 2, 7]⟩) (w.alloc (.cells #[.int .u8 6, .int .u8 0, .int .u8 2, .int .u8 7] 5)) := fun w => by rw [← H1.out]; exact conv_all (n := 4) (l := [6, 0, 2, 7]) rfl (rd_lit w .u8 [6, 0, 2, 7] #[.int .u8 6, .int .u8 0, .int .u8 2, .int .u8 7] 5 _ rfl rfl (by decide)) _ (Below.refl _ _)
  have p2 : ∀ w : World, (convert 22 9 (.slice (some ⟨w.heap.size, 0, none⟩) 4 4)).run Tryd.prog (w.alloc (.cells #[.int .u8 0, .int .u8 0, .int .u8 0, .int .u8 7] 5)) = .ok (.string ⟨#[0, 0, 0, 7]⟩) (w.alloc (.cells #[.int .u8 0, .int .u8 0, .int .u8 0, .int .u8 7] 5)) := fun w => by rw [← H2.out]; exact conv_all (n := 4) (l := [0, 0, 0, 7]) rfl (rd_lit w .u8 [0, 0, 0, 7] #[.int .u8 0, .int .u8 0, .int .u8 0, .int .u8 7] 5 _ rfl rfl (by decide)) _ (Below.refl _ _)
  obtain ⟨W, hW⟩ : ∃ W, w3.alloc (.cells #[.int .u8 6, .int .u8 0, .int .u8 2, .int .u8 7] 5) = W := ⟨_, rfl⟩
  have p1' := p1 w3
  have hbW := below_lit w3 (.cells #[.int .u8 6, .int .u8 0, .int .u8 2, .int .u8 7] 5)
  rw [hW] at p1' hbW
  have q2' := q2 W hbW
  have q1' := q1 w3 (Below.refl _ _)
  have p2' := p2 W
  have HBZ := Lib.hid (below_two HB3.out (below_two hbW (below_lit W (.cells #[.int .u8 0, .int .u8 0, .int .u8 0, .int .u8 7] 5))))
  have HW := Lib.hid hW
  clear p1 p2 q1 q2 hbW hW
  go_wp2_with fail
  rw [HW.out, p1']
  go_simp
  go_wp2
  go_ret
  exact ⟨rfl, HBZ.out⟩
end Go.Proofs.YticebanhccgglaaDoor
