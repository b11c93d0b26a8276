
/- flow.work: pop, pops, room, forward. -/
import Derived.Test.YtfkkmlgblhnkaaaDoorWork11b
namespace Go.Proofs.YtfkkmlgblhnkaaaDoor
open Go.RowKit

set_option maxRecDepth 100000 in
set_option maxHeartbeats 1000000 in
theorem Room_any (g m : Nat) (q : Ad) (s : Ps) (e : Int) (s' : Ps) (e' : Int) (w : World) (hr : roomW (s, e) m = (s', e')) (h : Wk w g q s e) (hl : s.ctl.length ≤ 1000000) (hm : m ≤ 100) :
    Calls Tryd.prog 51 #[.pointer (some ⟨g, 0, none⟩), .int .i64 m] w fun r w' => r = .returned (.tuple #[]) ∧ ∃ q', To g w q s w' q' s' e' := by
  have H := Lib.hid h
  obtain ⟨n, hn⟩ : ∃ n, s.ctl.length = n := ⟨_, rfl⟩
  have c3 := h.ctl
  rw [hn] at c3 hl
  unfold roomW at hr
  simp only [hn] at hr
  clear h hn
  have hw1 : IntKind.i64.wrap (2 * (m : Int)) = 2 * (m : Int) := by rw [IntKind.wrap_i64]; omega
  by_cases h0 : e = 0
  · subst h0
    by_cases hov : 128 < n + 2 * m
    · rw [if_pos ⟨rfl, hov⟩] at hr
      injection hr with hr1 hr2
      subst hr1 hr2
      have hd : (128 : Int) < (n : Int) + 2 * (m : Int) := by omega
      go_enter Tryd.func51, Tryd.ntmps51
      go_wp2_with fail
      refine (Ok_any g 0 true _ rfl H.out.er).mono ?_
      rintro r w1 ⟨rfl, rfl⟩
      go_wp2_with fail
      refine (Keep_yes g q s nilA zeroP (-3) w H.out (RdP.zero w) (Lies.zero _)).mono ?_
      rintro r w2 ⟨rfl, hw, hgr⟩
      have HW := Lib.hid hw
      have HG := Lib.hid hgr
      clear hw hgr c3
      go_wp2
      first | go_end0 | go_ret
      exact ⟨rfl, nilA, zero_keep HW.out HG.out⟩
    · rw [if_neg (fun h => hov h.2)] at hr
      injection hr with hr1 hr2
      subst hr1 hr2
      have hd : ¬ (128 : Int) < (n : Int) + 2 * (m : Int) := by omega
      go_enter Tryd.func51, Tryd.ntmps51
      go_wp2_with fail
      refine (Ok_any g 0 true _ rfl H.out.er).mono ?_
      rintro r w1 ⟨rfl, rfl⟩
      go_wp2
      first | go_end0 | go_ret
      exact ⟨rfl, q, To.same H.out⟩
  · rw [if_neg (fun h => h0 h.1)] at hr
    injection hr with hr1 hr2
    subst hr1 hr2
    go_enter Tryd.func51, Tryd.ntmps51
    go_wp2_with fail
    refine (Ok_any g e false _ (by simpa using h0) H.out.er).mono ?_
    rintro r w1 ⟨rfl, rfl⟩
    go_wp2
    first | go_end0 | go_ret
    exact ⟨rfl, q, To.same H.out⟩

set_option maxRecDepth 100000 in
set_option maxHeartbeats 1000000 in
theorem Pop_any2 (g : Nat) (kind : Int) (q : Ad) (s : Ps) (e : Int) (v : Int) (s' : Ps) (e' : Int) (w : World) (hv : popV (s, e) kind = v) (hr : popW (s, e) kind = (s', e')) (h : Wk w g q s e) (hl : s.ctl.length ≤ 1000000) :
    Calls Tryd.prog 40 #[.pointer (some ⟨g, 0, none⟩), .int .i64 kind] w fun r w' => r = .returned (.int .i64 v) ∧ ∃ q', To g w q s w' q' s' e' ∧ ∀ S, Lies q s S → Lies q' s' S := by
  have H := Lib.hid h
  obtain ⟨n, hn⟩ : ∃ n, s.ctl.length = n := ⟨_, rfl⟩
  have c3 := h.ctl
  have hcap := h.rd.ctl.cap
  have hle := h.rd.ctl.le
  have hg := h.lt
  rw [hn] at c3 hl hle
  unfold maxLen at hcap
  unfold popV at hv
  unfold popW at hr
  simp only [hn] at hv hr
  by_cases h0 : e = 0
  · subst h0
    rw [if_pos rfl] at hr
    by_cases h2 : n < 2
    · rw [if_neg (fun h => by omega)] at hv hr
      injection hr with hr1 hr2
      subst hr1 hr2 hv
      have hd : (n : Int) - 2 < 0 := by omega
      clear h hn
      go_enter Tryd.func40, Tryd.ntmps40
      go_wp2_with fail
      refine (Ok_any g 0 true _ rfl H.out.er).mono ?_
      rintro r w1 ⟨rfl, rfl⟩
      go_wp2_with fail
      refine (Keep_yes g q s nilA zeroP (-22) w H.out (RdP.zero w) (Lies.zero _)).mono ?_
      rintro r w2 ⟨rfl, hw, hgr⟩
      have HW := Lib.hid hw
      have HG := Lib.hid hgr
      clear hw hgr c3
      go_wp2
      go_ret
      exact ⟨rfl, nilA, zero_keep HW.out HG.out, fun _ _ => Lies.zero _⟩
    · obtain ⟨K, hK⟩ : ∃ K, n - 2 = K := ⟨_, rfl⟩
      obtain ⟨K1, hK1⟩ : ∃ K1, n - 1 = K1 := ⟨_, rfl⟩
      rw [hK] at hv hr
      rw [hK1] at hv
      obtain ⟨ad, hA, e0⟩ := RdI.at_ h.rd.ctl (j := K) (by rw [hn]; omega)
      obtain ⟨ad', hA', e1⟩ := RdI.at_ h.rd.ctl (j := K1) (by rw [hn]; omega)
      rw [hA] at hA'
      injection hA' with hA'
      subst hA'
      rw [hA] at c3
      obtain ⟨x, hx⟩ : ∃ x, s.ctl.getD K 0 = x := ⟨_, rfl⟩
      obtain ⟨y, hy⟩ : ∃ y, s.ctl.getD K1 0 = y := ⟨_, rfl⟩
      rw [hx] at hv hr e0
      rw [hy] at hv e1
      have eK : (n : Int) - 2 = (K : Int) := by omega
      have eK1 : (K : Int) + 1 = (K1 : Int) := by omega
      have b0 : ¬ (K : Int) < 0 := by omega
      have b1 : (0 : Int) ≤ (K : Int) := by omega
      have b2 : (K : Int) < (n : Int) := by omega
      have b3 : (0 : Int) ≤ (K1 : Int) := by omega
      have b4 : (K1 : Int) < (n : Int) := by omega
      have hKn : K ≤ q.cc := by omega
      have HA := Lib.hid hA
      by_cases hxk : x = kind
      · have h22 : (0 : Int) = 0 ∧ 2 ≤ n ∧ x = kind := ⟨rfl, by omega, hxk⟩
        rw [if_pos h22] at hv
        rw [if_pos h22.2] at hr
        injection hr with hr1 hr2
        subst hr1 hr2 hv hxk
        have hs := fun w => sl_hmi (some ad) n q.cc K w hKn
        have HCL : Hid ((s.ctl.take K).length = K) := Lib.hid (by rw [List.length_take, hn]; omega)
        have HRd : Hid (RdI w .i64 q.c K (s.ctl.take K)) := Lib.hid (by
          have := RdI.cut h.rd.ctl 0 K K (by rw [hn]; omega) (Nat.le_refl _) hKn
          have hz : cutA q.c 0 K = q.c := by unfold cutA; split <;> simp [Addr.add]
          rw [hz, List.drop_zero] at this
          exact this)
        clear h hn hx hy hK hK1 hA h22
        go_enter Tryd.func40, Tryd.ntmps40
        go_wp2_with fail
        refine (Ok_any g 0 true _ rfl H.out.er).mono ?_
        rintro r w1 ⟨rfl, rfl⟩
        go_wp2_with (refine wp_storeF rfl 23 _ _ rfl g 3 _ rfl rfl rfl 53 _ H.out.bx 16 rfl (by decide) info1c ?_)
        intro w3 hg3 hw3
        have HL : Lies { q with c := q.c, cc := K } { s with ctl := s.ctl.take K } (fun b => b ≠ g) := H.out.ls.withCtl (fun h0 ad e => H.out.ls.ctl (by have h0' : 0 < (s.ctl.take K).length := h0; rw [List.length_take] at h0'; omega) ad e)
        have HW3 : Wk w3 g { q with c := q.c, cc := K } { s with ctl := s.ctl.take K } 0 := by
          refine ⟨?_, (H.out.rd.withCtl HRd.out).grown HL hw3 (fun h => h rfl), HL⟩
          have e : wkL { q with c := q.c, cc := K } { s with ctl := s.ctl.take K } 0 = (wkL q s 0).set 3 (.slice (some ad) K K) := by
            show _ = (stL q s ++ [Value.int .i64 0]).set 3 _
            rw [← HA.out]
            conv => rhs; rw [show (Value.slice q.c K K) = Value.slice q.c (s.ctl.take K).length K by rw [HCL.out]]
            rfl
          rw [e]
          exact hg3
        have HT := Lib.hid (show To g w q s w3 { q with c := q.c, cc := K } { s with ctl := s.ctl.take K } 0 from ⟨HW3, fun S hS => (hS.mono (fun _ h => Or.inl h)).withCtl (fun h0 ad e => .inl (hS.ctl (by have h0' : 0 < (s.ctl.take K).length := h0; rw [List.length_take] at h0'; omega) ad e)), hw3⟩)
        have HLS : Hid (∀ S, Lies q s S → Lies { q with c := q.c, cc := K } { s with ctl := s.ctl.take K } S) := Lib.hid (fun S hS => hS.withCtl (fun h0 ad e => hS.ctl (by have h0' : 0 < (s.ctl.take K).length := h0; rw [List.length_take] at h0'; omega) ad e))
        clear hg3 hw3 HL HW3
        go_wp2
        go_ret
        exact ⟨rfl, _, HT.out, HLS.out⟩
      · rw [if_neg (fun h => hxk h.2.2)] at hv
        rw [if_neg (fun h => hxk h.2)] at hr
        injection hr with hr1 hr2
        subst hr1 hr2 hv
        have bxk : (x == kind) = false := by simpa using hxk
        have bnk : (x != kind) = true := by rw [bne, bxk]; rfl
        clear h hn hx hy hK hK1 hA
        go_enter Tryd.func40, Tryd.ntmps40
        go_wp2_with fail
        refine (Ok_any g 0 true _ rfl H.out.er).mono ?_
        rintro r w1 ⟨rfl, rfl⟩
        go_wp2_with fail
        refine (Keep_yes g q s nilA zeroP (-22) w H.out (RdP.zero w) (Lies.zero _)).mono ?_
        rintro r w2 ⟨rfl, hw, hgr⟩
        have HW := Lib.hid hw
        have HG := Lib.hid hgr
        clear hw hgr c3
        go_wp2
        go_ret
        exact ⟨rfl, nilA, zero_keep HW.out HG.out, fun _ _ => Lies.zero _⟩
  · rw [if_neg (fun h => h0 h.1)] at hv
    rw [if_neg h0] at hr
    injection hr with hr1 hr2
    subst hr1 hr2 hv
    clear h hn
    go_enter Tryd.func40, Tryd.ntmps40
    go_wp2_with fail
    refine (Ok_any g e false _ (by simpa using h0) H.out.er).mono ?_
    rintro r w1 ⟨rfl, rfl⟩
    go_wp2
    go_ret
    exact ⟨rfl, q, To.same H.out, fun _ h => h⟩
theorem Pop_any (g : Nat) (kind : Int) (q : Ad) (s : Ps) (e : Int) (v : Int) (s' : Ps) (e' : Int) (w : World) (hv : popV (s, e) kind = v) (hr : popW (s, e) kind = (s', e')) (h : Wk w g q s e) (hl : s.ctl.length ≤ 1000000) :
    Calls Tryd.prog 40 #[.pointer (some ⟨g, 0, none⟩), .int .i64 kind] w fun r w' => r = .returned (.int .i64 v) ∧ ∃ q', To g w q s w' q' s' e' :=
  (Pop_any2 g kind q s e v s' e' w hv hr h hl).mono (by rintro r w' ⟨rfl, q', ht, _⟩; exact ⟨rfl, q', ht⟩)
end Go.Proofs.YtfkkmlgblhnkaaaDoor
