
/- asm.Emit. -/
import Derived.Test.YtfkkmlgblhnkaaaDoorAsm10
import Derived.Test.YtfkkmlgblhnkaaaDoorSpot10
import Derived.Outline
namespace Go.Proofs.YtfkkmlgblhnkaaaDoor
open Go.RowKit

theorem layS_spots {s : Ps} {v : Int} (h : commaE s = 0) : (layS s v).spots.length ≤ s.spots.length + 1 := by
  rw [layS_rest h]
  have := List.length_filter_le (fun x : Int × Int => decide (x.1 < s.here)) s.spots
  simp
  omega
theorem commaS_spots {s : Ps} {v : Int} (h : commaE s = 0) : (commaS s v).spots = s.spots ∧ (commaS s v).tok = s.tok := by
  rw [commaS, if_pos h]
  exact ⟨rfl, rfl⟩
/-- Where Emit stands. -/
structure Em (s : Ps) (l : List Int) (s' : Ps) (er : Int) (k : Nat) (s1 : Ps) : Prop where
  st : emitS s1 (l.drop k) = s'
  er : emitE s1 (l.drop k) = er
  mem : s1.mem.length = s.mem.length
  spots : s1.spots.length ≤ s.spots.length + k
theorem Em.next {s : Ps} {l : List Int} {s' : Ps} {er : Int} {k : Nat} {s1 : Ps} (h : Em s l s' er k s1) (hk : k < l.length) (h0 : commaE s1 = 0) : Em s l s' er (k + 1) (layS s1 (l.getD k 0)) := by
  have e := drop_cons (l := l) (k := k) hk
  refine ⟨?_, ?_, by rw [layS_mem h0]; exact h.mem, by have := layS_spots (v := l.getD k 0) h0; have := h.spots; omega⟩
  · have := h.st
    rw [e, emitS, if_pos h0] at this
    exact this
  · have := h.er
    rw [e, emitE, if_pos h0] at this
    exact this
theorem Em.stop {s : Ps} {l : List Int} {s' : Ps} {er : Int} {k : Nat} {s1 : Ps} (h : Em s l s' er k s1) (hk : k < l.length) (h0 : commaE s1 ≠ 0) : s' = zeroP ∧ er = commaE s1 := by
  have e := drop_cons (l := l) (k := k) hk
  have h1 := h.st
  have h2 := h.er
  rw [e, emitS, if_neg h0] at h1
  rw [e, emitE, if_neg h0] at h2
  exact ⟨h1.symm, h2.symm⟩
theorem Em.done {s : Ps} {l : List Int} {s' : Ps} {er : Int} {k : Nat} {s1 : Ps} (h : Em s l s' er k s1) (hk : l.length ≤ k) : s' = s1 ∧ er = 0 := by
  have h1 := h.st
  have h2 := h.er
  rw [List.drop_eq_nil_of_le hk] at h1 h2
  exact ⟨h1.symm, h2.symm⟩

set_option maxHeartbeats 4000000 in
theorem Emit_any (q : Ad) (s : Ps) (A : Option Addr) (c n : Nat) (l : List Int) (s' : Ps) (er : Int) (w : World) (hn : l.length = n) (hs : emitS s l = s') (he : emitE s l = er) (hp : RdP w q s) (hx : RdI w .i64 A c l) (hl : s.mem.length ≤ 140737488355328) (hsp : s.spots.length + n ≤ 1000000) :
    Calls Tryd.prog 58 #[stV q s, .slice A n c] w fun e w' => ∃ q', e = .returned (.tuple #[stV q' s', .int .i64 er]) ∧ Res w.heap.size q s w' q' s' ∧ Below w.heap.size w w' := by
  have HB0 := Lib.hid (below_two (below_lit w (.cells (stL q s).toArray 28)) (below_lit _ (.cells (stL nilA zeroP).toArray 28)))
  have HP := Lib.hid (hp.below HB0.out)
  have HPw := Lib.hid hp
  have HN := Lib.hid hn
  have HX := Lib.hid hx
  have hle := hx.le
  have hcm := hx.cap
  rw [hn] at hle
  unfold maxLen at hcm
  have HE0 : Hid (Em s l s' er 0 s) := Lib.hid ⟨by simpa using hs, by simpa using he, rfl, by omega⟩
  have HG0 : Hid (Bx ((w.alloc (.cells (stL q s).toArray 28)).alloc (.cells (stL nilA zeroP).toArray 28)) w.heap.size 28 (stL q s)) := Lib.hid ((Bx.new w _ _ _ _ rfl rfl).alloc _)
  have HR0 : Hid (Bx ((w.alloc (.cells (stL q s).toArray 28)).alloc (.cells (stL nilA zeroP).toArray 28)) (w.heap.size + 1) 28 (stL nilA zeroP)) := Lib.hid (Bx.new _ _ _ _ _ (by simp) rfl)
  clear hp hn hx hs he
  rw [stV_eq q s]
  go_enter Tryd.func58, Tryd.ntmps58
  go_wp2_with fail
  go_step3
  go_wp2_with fail
  go_step3
  go_wp2_with fail
  go_loopw [6, 13] (fun e i wr => ∃ (k : Nat) (q1 : Ad) (s1 : Ps), e = .int .i64 0 ∧ i = .int .i64 k ∧ k ≤ n ∧ Hid (Em s l s' er k s1) ∧ Hid (Bx wr w.heap.size 28 (stL q1 s1)) ∧ Hid (Bx wr (w.heap.size + 1) 28 (stL nilA zeroP)) ∧ Hid (Res (w.heap.size + 2) q s wr q1 s1) ∧ Hid (Below w.heap.size w wr)) (fun _ i _ => n - (intOf i).toNat)
  case atStart => exact ⟨0, q, s, rfl, rfl, by omega, HE0, HG0, HR0, Lib.hid (Res.same _ HP.out), HB0⟩
  case round =>
    obtain ⟨k, q1, s1, rfl, rfl, hk, HE, HG, HR, HS, HB⟩ := hrel
    by_cases hlt : k < n
    · have hlt2 : k < l.length := by rw [HN.out]; exact hlt
      obtain ⟨ad, rfl, hcx⟩ := RdI.at_ (HX.out.below HB.out) hlt2
      obtain ⟨x, hxk⟩ : ∃ x, l.getD k 0 = x := ⟨_, rfl⟩
      rw [hxk] at hcx
      have HXK := Lib.hid hxk
      have h8 : wr.cell? ⟨w.heap.size, 8, none⟩ = some (.int .i64 s1.here) := HG.out.cell 8
      have h80 : (wr.alloc (.cells #[.int .i64 0] 3)).heap.size = wr.heap.size + 1 := by simp
      have HA : Hid (Bx (wr.alloc (.cells #[.int .i64 s1.here] 3)) wr.heap.size 3 [.int .i64 s1.here]) := Lib.hid (Bx.new wr _ _ _ _ rfl rfl)
      have HGA := Lib.hid (HG.out.alloc (.cells #[.int .i64 s1.here] 3))
      have HRA := Lib.hid (HR.out.alloc (.cells #[.int .i64 s1.here] 3))
      have HBA := Lib.hid (below_two HB.out (below_lit wr (.cells #[.int .i64 s1.here] 3)))
      have HSA := Lib.hid (HS.out.below (below_lit wr (.cells #[.int .i64 s1.here] 3)))
      have hwr : w.heap.size + 2 ≤ wr.heap.size := HR.out.lt
      have hml : s1.mem.length ≤ 140737488355328 := by rw [HE.out.mem]; exact hl
      obtain ⟨e1, he1⟩ : ∃ e, commaE s1 = e := ⟨_, rfl⟩
      have HE1 := Lib.hid he1
      clear hxk hlt2 he1 h80
      go_wp2_with (refine wp_loadS rfl 28 _ rfl w.heap.size rfl 28 (stL q1 s1) _ HGA.out Tryd.underlying28 rfl 15 infoSt rfl ?_)
      refine (Comma_any q1 s1 x _ e1 _ rfl HE1.out HSA.out.rd hml).mono ?_
      rintro e w2 ⟨q2, rfl, hp2, hb⟩
      have HG2 := Lib.hid (HGA.out.below hb)
      have HR2 := Lib.hid (HRA.out.below hb)
      have HA2 := Lib.hid (HA.out.below hb)
      have HB2 := Lib.hid (below_two HBA.out hb)
      have HS2 := Lib.hid (HSA.out.trans hp2 (by simp; omega))
      clear hp2 hb h8 hcx
      go_wp2_with (refine wp_storeS rfl 28 _ _ rfl w.heap.size (stL q2 (commaS s1 x)) rfl rfl 28 _ HG2.out 15 infoSt rfl rfl rfl ?_)
      intro w3 hg3 hw3
      have HG3 := Lib.hid hg3
      have HR3 := Lib.hid (HR2.out.grown hw3 (by omega))
      have HA3 := Lib.hid (HA2.out.grown hw3 (by omega))
      have HB3 := Lib.hid (below_grown HB2.out HB2.out.size hw3 (Nat.le_refl _))
      have HS3 := Lib.hid (HS2.out.grown HPw.out hw3 (by omega) (by omega))
      have hw3s : w.heap.size + 2 ≤ w3.heap.size := HR3.out.lt
      have hw3a : wr.heap.size < w3.heap.size := HA3.out.lt
      clear hg3 hw3 HG2 HR2 HA2 HB2 HS2
      by_cases h0 : e1 = 0
      · subst h0
        obtain ⟨hsp1, htk1⟩ := commaS_spots (v := x) HE1.out
        have hspn : (commaS s1 x).spots.length ≤ s.spots.length + k := by rw [hsp1]; exact HE.out.spots
        have hlay : layS s1 x = { commaS s1 x with spots := (s1.spots.filter (keepS s1.here)) ++ [(s1.here, s1.tok)] } := rfl
        have HEN := Lib.hid (HE.out.next (by rw [HN.out]; exact hlt) HE1.out)
        rw [HXK.out] at HEN
        generalize commaS s1 x = s2 at *
        have HLAY := Lib.hid hlay
        have HSP := Lib.hid hsp1
        have HTK := Lib.hid htk1
        clear hlay hsp1 htk1
        have h5 : w3.cell? ⟨w.heap.size, 5, none⟩ = some (.slice q2.s s2.spots.length q2.sc) := HG3.out.cell 5
        go_wp2_with fail
        refine (CloneS_any q2.s q2.sc s2.spots.length s2.spots _ rfl HS3.out.rd.spots (by omega)).mono ?_
        rintro e w4 ⟨y, rfl, ho, hb⟩
        have HO4 := Lib.hid ho
        have HG4 := Lib.hid (HG3.out.below hb)
        have HR4 := Lib.hid (HR3.out.below hb)
        have HA4 := Lib.hid (HA3.out.below hb)
        have HB4 := Lib.hid (below_two HB3.out hb)
        have HB34 := Lib.hid hb
        have hw4 := hb.size
        clear ho hb h5 HG3 HR3 HA3 HB3
        have hmf : ∀ (fn : Fn) (first cap : Array Value) (w : World), (Instr.makeFunc fn first cap).run Tryd.prog w = .ok (.func fn first cap) w := fun _ _ _ _ => rfl
        go_wp2_with fail
        refine (DeleteS_any w3.heap.size y s2.spots.length s2.spots s1.here ⟨wr.heap.size, 0, none⟩ _ _ rfl rfl HO4.out (by omega) (HA4.out.cell 0) hw3a hw4).mono ?_
        rintro e w5 ⟨y5, rfl, ho, hb⟩
        clear hmf
        have HO5 := Lib.hid ho
        have HG5 : Hid (Bx w5 w.heap.size 28 (stL q2 s2)) := Lib.hid ((hb.block _ (by omega)).trans HG4.out)
        have HR5 : Hid (Bx w5 (w.heap.size + 1) 28 (stL nilA zeroP)) := Lib.hid ((hb.block _ (by omega)).trans HR4.out)
        have HA5 : Hid (Bx w5 wr.heap.size 3 [.int .i64 s1.here]) := Lib.hid ((hb.block _ (by omega)).trans HA4.out)
        have HB5 := Lib.hid (HB4.out.trans (hb.mono (by omega)))
        have HB35 := Lib.hid (HB34.out.trans hb)
        have hw5 : w3.heap.size ≤ w5.heap.size := Nat.le_trans hw4 hb.size
        clear ho hb HG4 HR4 HA4 HB4 HO4 HB34
        obtain ⟨m, hm⟩ : ∃ m, s2.spots.filter (keepS s1.here) = m := ⟨_, rfl⟩
        rw [hm] at HO5
        have hml2 : m.length ≤ 1000000 := by
          have := List.length_filter_le (keepS s1.here) s2.spots
          rw [hm] at this
          omega
        have HMM := Lib.hid hm
        have hA0 : w5.cell? ⟨wr.heap.size, 0, none⟩ = some (.int .i64 s1.here) := HA5.out.cell 0
        have hT0 : w5.cell? ⟨w.heap.size, 10, none⟩ = some (.int .i64 s1.tok) := by rw [HG5.out.cell 10, ← HTK.out]; rfl
        clear hm
        go_wp2_with (refine wp_app (w0 := w5) rfl (.tmp 32) (.tmp 37) 26 86 _ 2 16 rfl Tryd.underlying26 infoSp rfl (by decide) (by decide) w3.heap.size y5 m.length (ecells encSp m) rfl (HO5.out.alloc _) (some ⟨w5.heap.size, 0, none⟩) 1 1 (ecells encSp [(s1.here, s1.tok)]) rfl (rd_alloc _ _ _ _ _ _ _ _ rfl rfl (by decide) (by decide)) (ecells_one_sp _) (by omega) (by simp; omega) (((Below.refl w5.heap.size w5).alloc (Nat.le_refl _) _).mono hw5) ?_)
        intro y6 w6 ho hb _
        have HO6 := Lib.hid ho
        have HG6 : Hid (Bx w6 w.heap.size 28 (stL q2 s2)) := Lib.hid ((hb.block _ (by omega)).trans HG5.out)
        have HR6 : Hid (Bx w6 (w.heap.size + 1) 28 (stL nilA zeroP)) := Lib.hid ((hb.block _ (by omega)).trans HR5.out)
        have HB6 := Lib.hid (HB5.out.trans (hb.mono (by omega)))
        have HS6 := Lib.hid (HS3.out.below (HB35.out.trans hb))
        clear hA0 hT0 HA5 ho hb HG5 HR5 HB5 HO5 HS3 HB35
        obtain ⟨A6, c6, rfl, _⟩ := Rd.own HO6.out
        go_wp2_with (refine wp_storeF rfl 26 _ _ rfl w.heap.size 5 _ rfl rfl rfl 28 (stL q2 s2) HG6.out 15 rfl (by decide) info1s ?_)
        intro w7 hg7 hw7
        have hlen : (m ++ [(s1.here, s1.tok)]).length = m.length + 1 := by simp
        have hs3 : layS s1 x = { s2 with spots := m ++ [(s1.here, s1.tok)] } := by rw [HLAY.out, ← HMM.out, HSP.out]
        have HG7 : Hid (Bx w7 w.heap.size 28 (stL { q2 with s := A6, sc := c6 } (layS s1 x))) := Lib.hid (by
          rw [hs3]
          have e : stL { q2 with s := A6, sc := c6 } { s2 with spots := m ++ [(s1.here, s1.tok)] } = (stL q2 s2).set 5 (.slice A6 (m.length + 1) c6) := by
            simp [stL]
          rw [e]
          exact hg7)
        have HR7 := Lib.hid (HR6.out.grown hw7 (by omega))
        have HB7 := Lib.hid (below_grown HB6.out HB6.out.size hw7 (Nat.le_refl _))
        have HO7 := Lib.hid (own_keep HO6.out hw7 (by omega))
        have HS7 : Hid (Res (w.heap.size + 2) q s w7 { q2 with s := A6, sc := c6 } (layS s1 x)) := Lib.hid (by
          rw [hs3]
          refine (HS6.out.grown HPw.out hw7 (Nat.le_refl _) (by omega)).withSpots ?_ ?_
          · have := own_rd HO7.out
            rw [← ecells_app] at this
            show Rd w7 A6 (m ++ [(s1.here, s1.tok)]).length c6 2 _
            rw [hlen]
            exact this
          · rw [hlen]
            exact own_block_ge (own_mono HO7.out hw3s))
        clear hg7 hw7 hlen hs3 HO6 HG6 HR6 HB6 HS6
        go_wp2
        go_roundw
        case rel => exact ⟨k + 1, _, _, rfl, by go_num, by omega, HEN, HG7, HR7, HS7, HB7⟩
        case measure => simp [intOf] <;> omega
      · have b1 : (e1 != 0) = true := by simpa using h0
        have hst := HE.out.stop (by rw [HN.out]; exact hlt) (by rw [HE1.out]; exact h0)
        rw [HE1.out] at hst
        obtain ⟨rfl, rfl⟩ := hst
        have hc0 : commaS s1 x = zeroP := commaS_no (by rw [HE1.out]; exact h0)
        rw [hc0] at HG3 HS3
        clear hc0 h0 HE
        go_wp2_with (first
          | (refine wp_loadS rfl 28 _ rfl w.heap.size rfl 28 _ _ HG3.out Tryd.underlying28 rfl 15 infoSt rfl ?_)
          | (refine wp_storeS rfl 28 _ _ rfl (w.heap.size + 1) (stL q2 zeroP) rfl rfl 28 _ HR3.out 15 infoSt rfl rfl rfl ?_))
        intro w4 hr4 hw4
        have HR4 := Lib.hid hr4
        have HB4 := Lib.hid (below_grown HB3.out HB3.out.size hw4 (by omega))
        have HS4 := Lib.hid (HS3.out.grown HPw.out hw4 (by omega) (by omega))
        clear hr4 hw4
        go_wp2
        rw [Exit.noGoto_ret]
        refine bodyPost_ret (v := .tuple #[stV q2 zeroP, .int .i64 er]) (results_S Tryd.results58 _ _ _ 28 _ _ rfl HR4.out Tryd.underlying28 rfl 15 infoSt rfl _ rfl) rfl ?_
        exact ⟨_, rfl, HS4.out.mono (by omega), HB4.out⟩
    · have hd := HE.out.done (by rw [HN.out]; omega)
      obtain ⟨rfl, rfl⟩ := hd
      go_wp2_with (first
        | (refine wp_loadS rfl 28 _ rfl w.heap.size rfl 28 (stL q1 s') _ HG.out Tryd.underlying28 rfl 15 infoSt rfl ?_)
        | (refine wp_storeS rfl 28 _ _ rfl (w.heap.size + 1) (stL q1 s') rfl rfl 28 _ HR.out 15 infoSt rfl rfl rfl ?_))
      intro w4 hr4 hw4
      have HR4 := Lib.hid hr4
      have HB4 := Lib.hid (below_grown HB.out HB.out.size hw4 (by omega))
      have HS4 := Lib.hid (HS.out.grown HPw.out hw4 (by omega) (by omega))
      clear hr4 hw4
      go_wp2
      rw [Exit.noGoto_ret]
      refine bodyPost_ret (v := .tuple #[stV q1 s', .int .i64 0]) (results_S Tryd.results58 _ _ _ 28 _ _ rfl HR4.out Tryd.underlying28 rfl 15 infoSt rfl _ rfl) rfl ?_
      exact ⟨_, rfl, HS4.out.mono (by omega), HB4.out⟩
end Go.Proofs.YtfkkmlgblhnkaaaDoor
