/- (*codec.Reader).Text; the reader that is nil. -/
import Derived.Test.YtaegphgjdffgaaaRNum16
namespace Go.Proofs.Ytaegphgjdffgaaa
open Go.RowKit

theorem readS_len (l : List Int) (e lo hi : Int) : (readS l e lo hi).2.1.length ≤ l.length := by
  unfold readS
  split
  · exact Nat.le_refl _
  · split
    · exact Nat.le_refl _
    · split
      · simp
      · simp
theorem readS_ok (l : List Int) (e lo hi : Int) : (readS l e lo hi).2.2 = 0 → lo ≤ (readS l e lo hi).1 ∧ (readS l e lo hi).1 ≤ hi := by
  unfold readS
  split
  · rename_i h
    exact fun h2 => absurd h2 h
  · split
    · rename_i h
      exact fun h2 => absurd h2 h
    · split
      · exact fun h2 => absurd (show (2 : Int) = 0 from h2) (by decide)
      · intro _
        simp only
        omega

set_option maxHeartbeats 1000000 in
theorem RdText_dat (g : Nat) (A : Option Addr) (c : Nat) (l : List Int) (e hi : Int) (w : World) (h : Rdr w g A c l e) (t : List Int) (l2 : List Int) (e2 : Int) (hr : textS l e hi = (t, l2, e2)) (hlen : l.length ≤ 1000000) :
    Calls Try.prog 15 #[.pointer (some ⟨g, 0, none⟩), .int .i64 hi] w fun r w' => ∃ A1 c1, r = .returned (.slice A1 t.length c1) ∧ RdI w' .u8 A1 c1 t ∧ ∃ A2 c2, RdrK w w' g A c l A2 c2 l2 e2 ∧ Only g w w' := by
  obtain ⟨n, l1, e1, hq⟩ : ∃ n l1 e1, readS l e 0 hi = (n, l1, e1) := ⟨_, _, _, rfl⟩
  have hok := readS_ok l e 0 hi
  have hl1 := readS_len l e 0 hi
  unfold textS at hr
  rw [hq] at hr hok hl1
  simp only at hr hok hl1
  have H := Lib.hid h
  have HQ := Lib.hid hq
  clear h hq
  go_enter Try.func15, Try.ntmps15
  go_wp2_with fail
  refine (RdNum_dat g A c l e 0 hi w H.out n l1 e1 HQ.out hlen).mono ?_
  rintro r w1 ⟨rfl, A1, c1, ⟨h1, hk⟩, ho⟩
  have HK := Lib.hid hk
  clear hk
  have H1 := Lib.hid h1
  have HO := Lib.hid ho
  have c0 := h1.st.c0
  have hle := h1.d.1.le
  have hcm := h1.d.1.cap
  unfold maxLen at hcm
  clear h1 ho
  go_wp2_with fail
  refine (Err_any g e1 _ H1.out.st.c1).mono ?_
  rintro r w' ⟨rfl, rfl⟩
  by_cases he : e1 = 0
  · subst he
    rw [if_neg (by decide)] at hr
    obtain ⟨hn0, hn1⟩ := hok rfl
    obtain ⟨k, rfl⟩ := Int.eq_ofNat_of_zero_le hn0
    by_cases hlt : (l1.length : Int) < k
    · rw [if_pos hlt] at hr
      injection hr with q1 q2
      injection q2 with q2 q3
      subst q1 q2 q3
      have k1 := H1.out.st.c1
      have f1 := H1.out.st.f1
      go_wp2
      go_ret
      exact ⟨none, 0, rfl, rd_nil _ _, A1, c1, ⟨⟨H1.out.st.set1 3, H1.out.d.only ((Only.refl g _).setCell 1 _), H1.out.b⟩, fun g2 hd => ⟨(H1.out.d.only ((Only.refl g _).setCell 1 _)).1, (HK.out g2 hd).2⟩⟩, HO.out.setCell 1 _⟩
    · rw [if_neg hlt, Int.toNat_natCast] at hr
      injection hr with q1 q2
      injection q2 with q2 q3
      subst q1 q2 q3
      have f0 := H1.out.st.f0
      have hs1 := fun w => sl_hm A1 l1.length c1 k w (by omega)
      have hs2 := fun w => sl_l A1 l1.length c1 k w (by omega) hle
      have HD := Lib.hid (H1.out.d.only ((Only.refl g w1).setCell 0 (.slice (cutA A1 k (c1 - k)) (l1.length - k) (c1 - k))))
      have HR := Lib.hid (rdr_cut H1.out.b (H1.out.st.set0 (.slice (cutA A1 k (c1 - k)) (l1.length - k) (c1 - k))) HD.out (by omega) hle (by omega))
      have hz : cutA A1 0 k = A1 := by unfold cutA; split <;> simp [Addr.add]
      have hct := HD.out.1.cut 0 k k (by omega) (Nat.le_refl _) (by omega)
      rw [hz, List.drop_zero] at hct
      have HT := Lib.hid hct
      have hlen2 : (l1.take k).length = k := by rw [List.length_take]; omega
      have HL := Lib.hid hlen2
      clear hct hlen2 hz
      go_wp2
      go_ret
      exact ⟨A1, k, by rw [HL.out]; rfl, HT.out, _, _, ⟨HR.out, fun g2 hd => ⟨HR.out.d.1, (cut_dat (HK.out g2 hd) (HR.out.d.1) (by omega) hle).2⟩⟩, HO.out.setCell 0 _⟩
  · rw [if_pos he] at hr
    injection hr with q1 q2
    injection q2 with q2 q3
    subst q1 q2 q3
    have hb : (e1 != 0) = true := by simpa using he
    go_wp2
    go_ret
    exact ⟨none, 0, rfl, rd_nil _ _, A1, c1, ⟨H1.out, HK.out⟩, HO.out⟩

theorem RdText_any (g : Nat) (A : Option Addr) (c : Nat) (l : List Int) (e hi : Int) (w : World) (h : Rdr w g A c l e) (t : List Int) (l2 : List Int) (e2 : Int) (hr : textS l e hi = (t, l2, e2)) (hlen : l.length ≤ 1000000) :
    Calls Try.prog 15 #[.pointer (some ⟨g, 0, none⟩), .int .i64 hi] w fun r w' => ∃ A1 c1, r = .returned (.slice A1 t.length c1) ∧ RdI w' .u8 A1 c1 t ∧ ∃ A2 c2, Rdr w' g A2 c2 l2 e2 ∧ Only g w w' :=
  (RdText_dat g A c l e hi w h t l2 e2 hr hlen).mono fun _ _ ⟨A1, c1, h0, h1, A2, c2, h2, h3⟩ => ⟨A1, c1, h0, h1, A2, c2, h2.r, h3⟩

theorem RdNum_nil (lo hi : Int) (w : World) :
    Calls Try.prog 17 #[.pointer none, .int .i64 lo, .int .i64 hi] w fun r w' => r = .returned (.int .i64 0) ∧ Below w.heap.size w w' := by
  have HB := Lib.hid (below_two (below_lit w (.cells #[.pointer none] 28)) (below_lit _ (.cells #[.int .i64 0] 3)))
  go_enter_defers Try.func17, Try.ntmps17
  go_wp2_with fail
  refine (Err_nil _).mono ?_
  rintro r w' ⟨rfl, rfl⟩
  go_wp2
  simp [bodyPostD, Leaves, results, Try.results17, go_sem]
  exact HB.out
theorem RdText_nil (hi : Int) (w : World) :
    Calls Try.prog 15 #[.pointer none, .int .i64 hi] w fun r w' => r = .returned (.slice none 0 0) ∧ Below w.heap.size w w' := by
  go_enter Try.func15, Try.ntmps15
  go_wp2_with fail
  refine (RdNum_nil 0 hi w).mono ?_
  rintro r w1 ⟨rfl, hb⟩
  go_wp2_with fail
  refine (Err_nil _).mono ?_
  rintro r w' ⟨rfl, rfl⟩
  go_wp2
  go_ret
  exact ⟨rfl, hb⟩
end Go.Proofs.Ytaegphgjdffgaaa
