
/- nostosref10.Emit. -/
import Derived.Test.YtfkkmlgblhnkaaaDoorRAsm10
import Derived.Test.YtfkkmlgblhnkaaaDoorEmit10
import Derived.StillTailTactics
import Derived.Deep.QuietTactic
import Derived.BigQuiet
import Derived.Deep.RegionHeld3
namespace Go.Proofs.YtfkkmlgblhnkaaaDoor
open Go.RowKit

theorem Res.grown' {B k : Nat} {q q' : Ad} {s s' : Ps} {w w' : World} (h : Res B q s w q' s') (hl : Lies q' s' (fun b => b ≠ k)) (hg : w.grownBy w' (some k)) : Res B q s w' q' s' :=
  ⟨h.rd.grown hl hg (fun h => h rfl), h.lies⟩

set_option maxHeartbeats 8000000 in
set_option maxRecDepth 100000 in
theorem REmit_any (q : Ad) (s : Ps) (A : Option Addr) (c n : Nat) (l : List Int) (s' : Ps) (er : Int) (w : World) (hn : l.length = n) (hs : emitS s l = s') (he : emitE s l = er) (hp : RdP w q s) (hx : RdI w .i64 A c l) (hl : s.mem.length ≤ 140737488355328) (hsp : s.spots.length + n ≤ 1000000) :
    Calls Tryd.prog 24 #[stV q s, .slice A n c] w fun e w' => ∃ q', e = .returned (.tuple #[stV q' s', .int .i64 er]) ∧ Res w.heap.size q s w' q' s' ∧ Below w.heap.size w w' := by
  have HB0 := Lib.hid (below_two (below_lit w (.cells (stL q s).toArray 28)) (below_lit _ (.cells (stL nilA zeroP).toArray 28)))
  have HP := Lib.hid (hp.below HB0.out)
  have HPw := Lib.hid hp
  have HN := Lib.hid hn
  have HX := Lib.hid hx
  have hle := hx.le
  have hcm := hx.cap
  rw [hn] at hle
  unfold maxLen at hcm
  have HE0 : Hid (Em s l s' er 0 s) := Lib.hid ⟨by simpa using hs, by simpa using he, rfl, by omega⟩
  have HG0 : Hid (Bx ((w.alloc (.cells (stL q s).toArray 28)).alloc (.cells (stL nilA zeroP).toArray 28)) w.heap.size 28 (stL q s)) := Lib.hid ((Bx.new w _ _ _ _ rfl rfl).alloc _)
  have HR0 : Hid (Bx ((w.alloc (.cells (stL q s).toArray 28)).alloc (.cells (stL nilA zeroP).toArray 28)) (w.heap.size + 1) 28 (stL nilA zeroP)) := Lib.hid (Bx.new _ _ _ _ _ (by simp) rfl)
  clear hp hn hx hs he
  rw [stV_eq q s]
  go_enter Tryd.func24, Tryd.ntmps24
  go_wp2_with fail
  go_loopw [6] (fun i wr => ∃ (k : Nat) (q1 : Ad) (s1 : Ps), i = .int .i64 k ∧ k ≤ n ∧ Hid (Em s l s' er k s1) ∧ Hid (Bx wr w.heap.size 28 (stL q1 s1)) ∧ Hid (Bx wr (w.heap.size + 1) 28 (stL nilA zeroP)) ∧ Hid (Res (w.heap.size + 2) q s wr q1 s1) ∧ Hid (Below w.heap.size w wr)) (fun i _ => n - (intOf i).toNat)
  case atStart => exact ⟨0, q, s, rfl, by omega, HE0, HG0, HR0, Lib.hid (Res.same _ HP.out), HB0⟩
  case round =>
    obtain ⟨k, q1, s1, rfl, hk, HE, HG, HR, HS, HB⟩ := hrel
    by_cases hlt : k < n
    · have hlt2 : k < l.length := by rw [HN.out]; exact hlt
      obtain ⟨ad, rfl, hcx⟩ := RdI.at_ (HX.out.below HB.out) hlt2
      obtain ⟨x, hxk⟩ : ∃ x, l.getD k 0 = x := ⟨_, rfl⟩
      rw [hxk] at hcx
      have HXK := Lib.hid hxk
      have hwr : w.heap.size + 2 ≤ wr.heap.size := HR.out.lt
      have hml : s1.mem.length ≤ 140737488355328 := by rw [HE.out.mem]; exact hl
      obtain ⟨e1, he1⟩ : ∃ e, commaE s1 = e := ⟨_, rfl⟩
      have HE1 := Lib.hid he1
      clear hxk hlt2 he1
      go_wp2_with fail
      have KEEP : Hid (∀ w', Below wr.heap.size wr w' → Below wr.heap.size wr w' ∧ w'.cell? (ad.add k) = some (.int .i64 x) ∧ w'.cell? ⟨w.heap.size, 0, none⟩ = some (.slice q1.m s1.mem.length q1.mc) ∧ w'.cell? ⟨w.heap.size, 1, none⟩ = some (.slice q1.d s1.data.length q1.dc) ∧ w'.cell? ⟨w.heap.size, 2, none⟩ = some (.slice q1.r s1.ret.length q1.rc) ∧ w'.cell? ⟨w.heap.size, 3, none⟩ = some (.slice q1.c s1.ctl.length q1.cc) ∧ w'.cell? ⟨w.heap.size, 4, none⟩ = some (.slice q1.w s1.words.length q1.wc) ∧ w'.cell? ⟨w.heap.size, 5, none⟩ = some (.slice q1.s s1.spots.length q1.sc) ∧ w'.cell? ⟨w.heap.size, 6, none⟩ = some (.slice q1.o s1.out.length q1.oc) ∧ w'.cell? ⟨w.heap.size, 7, none⟩ = some (.int .i64 s1.ip) ∧ w'.cell? ⟨w.heap.size, 8, none⟩ = some (.int .i64 s1.here) ∧ w'.cell? ⟨w.heap.size, 9, none⟩ = some (.int .i64 s1.pos) ∧ w'.cell? ⟨w.heap.size, 10, none⟩ = some (.int .i64 s1.tok) ∧ w'.cell? ⟨w.heap.size, 11, none⟩ = some (.int .i64 s1.inp) ∧ w'.cell? ⟨w.heap.size, 12, none⟩ = some (.int .i64 s1.err) ∧ w'.cell? ⟨w.heap.size, 13, none⟩ = some (.bool s1.comp) ∧ w'.cell? ⟨w.heap.size, 14, none⟩ = some (.bool s1.halt)) := Lib.hid (fun w' hb => ⟨hb, (hb.cell (World.block_lt_of_cell? wr _ hcx)).trans hcx, (HG.out.below hb).st15⟩)
      go_region_held3 (fun w' => Below wr.heap.size wr w' ∧ w'.cell? (ad.add k) = some (.int .i64 x) ∧ w'.cell? ⟨w.heap.size, 0, none⟩ = some (.slice q1.m s1.mem.length q1.mc) ∧ w'.cell? ⟨w.heap.size, 1, none⟩ = some (.slice q1.d s1.data.length q1.dc) ∧ w'.cell? ⟨w.heap.size, 2, none⟩ = some (.slice q1.r s1.ret.length q1.rc) ∧ w'.cell? ⟨w.heap.size, 3, none⟩ = some (.slice q1.c s1.ctl.length q1.cc) ∧ w'.cell? ⟨w.heap.size, 4, none⟩ = some (.slice q1.w s1.words.length q1.wc) ∧ w'.cell? ⟨w.heap.size, 5, none⟩ = some (.slice q1.s s1.spots.length q1.sc) ∧ w'.cell? ⟨w.heap.size, 6, none⟩ = some (.slice q1.o s1.out.length q1.oc) ∧ w'.cell? ⟨w.heap.size, 7, none⟩ = some (.int .i64 s1.ip) ∧ w'.cell? ⟨w.heap.size, 8, none⟩ = some (.int .i64 s1.here) ∧ w'.cell? ⟨w.heap.size, 9, none⟩ = some (.int .i64 s1.pos) ∧ w'.cell? ⟨w.heap.size, 10, none⟩ = some (.int .i64 s1.tok) ∧ w'.cell? ⟨w.heap.size, 11, none⟩ = some (.int .i64 s1.inp) ∧ w'.cell? ⟨w.heap.size, 12, none⟩ = some (.int .i64 s1.err) ∧ w'.cell? ⟨w.heap.size, 13, none⟩ = some (.bool s1.comp) ∧ w'.cell? ⟨w.heap.size, 14, none⟩ = some (.bool s1.halt))
        (first
          | (refine KEEP.out _ ?_; (iterate 15 with_reducible refine below_set ?_); with_reducible exact hS.1)
          | (with_reducible exact KEEP.out _ (Below.refl _ _).drew)
          | (with_reducible exact KEEP.out _ (((Below.refl _ _).alloc (Nat.le_refl _) _).drew))
          | (with_reducible exact hS)
          | (with_reducible exact KEEP.out _ (hS.1.alloc hS.1.size _)))
        ((go_at_call 59; refine (RComma_any q1 s1 x _ e1 _ rfl HE1.out (HS.out.rd.below ((by assumption : Below wr.heap.size wr _ ∧ _)).1) hml).mono ?_; rintro e w2 ⟨q2, rfl, hp2, hb⟩; have HC2 := Lib.hid hp2; have HBB := Lib.hid hb; have hS := KEEP.out w2 (((by assumption : Below wr.heap.size wr _ ∧ _)).1.trans (hb.mono ((by assumption : Below wr.heap.size wr _ ∧ _)).1.size)); clear hp2; (first | (have HZ : Bx w2 wr.heap.size 28 (stL nilA zeroP) := Bx.below (w := (wr.alloc (.cells (stL nilA zeroP).toArray 28)).drew) (show Bx _ wr.heap.size 28 (stL nilA zeroP) from Bx.new wr _ _ _ _ rfl rfl) hb; obtain ⟨⟨z0, z1, z2, z3, z4, z5, z6, z7, z8, z9, z10, z11, z12, z13, z14⟩, f0, f1, f2, f3, f4, f5, f6, f7, f8, f9, f10, f11, f12, f13, f14⟩ := HZ.z15; have HZ2 := Lib.hid HZ; clear HZ) | skip); clear hb; rw [stV_eq q2 (commaS s1 x)]))
      · obtain ⟨W, hW⟩ : ∃ W, w2.alloc (.cells #[.slice q2.m (commaS s1 x).mem.length q2.mc, .slice q2.d (commaS s1 x).data.length q2.dc, .slice q2.r (commaS s1 x).ret.length q2.rc, .slice q2.c (commaS s1 x).ctl.length q2.cc, .slice q2.w (commaS s1 x).words.length q2.wc, .slice q2.s (commaS s1 x).spots.length q2.sc, .slice q2.o (commaS s1 x).out.length q2.oc, .int .i64 (commaS s1 x).ip, .int .i64 (commaS s1 x).here, .int .i64 (commaS s1 x).pos, .int .i64 (commaS s1 x).tok, .int .i64 (commaS s1 x).inp, .int .i64 (commaS s1 x).err, .bool (commaS s1 x).comp, .bool (commaS s1 x).halt] 28) = W := ⟨_, rfl⟩
        rename_i hheld
        have hSW := hheld.1
        clear hheld
        rw [hW] at hSW ⊢
        have HT : Hid (Bx W w2.heap.size 28 (stL q2 (commaS s1 x))) := Lib.hid (by rw [← hW]; exact Bx.new w2 _ _ _ _ rfl rfl)
        have HSW : Hid (Res (w.heap.size + 2) q s W q2 (commaS s1 x)) := Lib.hid (HS.out.trans (by rw [← hW]; exact HC2.out.below (below_lit w2 _)) (by simp; omega))
        have HSO := Lib.hid (HS.out.rd.spots.below hSW)
        have HGW := Lib.hid (HG.out.below hSW)
        have HRW := Lib.hid (HR.out.below hSW)
        have HBW := Lib.hid (below_two HB.out hSW)
        have HLT : Hid (Lies q2 (commaS s1 x) (fun b => b ≠ w2.heap.size)) := Lib.hid (HC2.out.rd.lies.mono (fun b h => Nat.ne_of_lt h))
        obtain ⟨T, hT⟩ : ∃ T, w2.heap.size = T := ⟨_, rfl⟩
        have hTl : wr.heap.size ≤ T := by rw [← hT]; exact HBB.out.size
        rw [hT] at HT HLT ⊢
        clear hW hS HC2 HBB hT hSW
        clear KEEP hcx
        have hTw : T < W.heap.size := HT.out.lt
        by_cases h0 : e1 = 0
        · subst h0
          obtain ⟨hsp1, htk1⟩ := commaS_spots (v := x) HE1.out
          have hspn : s1.spots.length ≤ s.spots.length + k := HE.out.spots
          have hlay : layS s1 x = { commaS s1 x with spots := (s1.spots.filter (keepS s1.here)) ++ [(s1.here, s1.tok)] } := rfl
          have HEN := Lib.hid (HE.out.next (by rw [HN.out]; exact hlt) HE1.out)
          rw [HXK.out] at HEN
          generalize commaS s1 x = s2 at *
          have HLAY := Lib.hid hlay
          clear hlay hsp1 htk1
          have HW0 := Lib.hid (Below.refl W.heap.size W)
          have hWw : w.heap.size + 2 ≤ W.heap.size := by omega
          go_wp2_with fail
          go_loopw [9, 10] (fun v y wi => ∃ (j : Nat), y = .int .i64 j ∧ j ≤ s1.spots.length ∧ Hid (wi.ownsRow W.heap.size 86 2 v ((s1.spots.take j).filter (keepS s1.here)).length (ecells encSp ((s1.spots.take j).filter (keepS s1.here)))) ∧ Hid (Below W.heap.size W wi)) (fun _ y _ => s1.spots.length - (intOf y).toNat)
          case atStart => exact ⟨0, rfl, by omega, Lib.hid ⟨rfl, .inl ⟨rfl, rfl⟩⟩, HW0⟩
          case round =>
            obtain ⟨j, rfl, hj, HO, HBI⟩ := hrel
            have hfl : ((s1.spots.take j).filter (keepS s1.here)).length ≤ j := by
              have := List.length_filter_le (keepS s1.here) (s1.spots.take j)
              simp at this
              omega
            by_cases hj2 : j < s1.spots.length
            · have c5 : wr.cell? ⟨w.heap.size, 5, none⟩ = some (.slice q1.s s1.spots.length q1.sc) := (HGW.out.below HBI.out).cell 5
              have c8 : wr.cell? ⟨w.heap.size, 8, none⟩ = some (.int .i64 s1.here) := (HGW.out.below HBI.out).cell 8
              obtain ⟨ad2, had, hcell⟩ := RdE.all encSp_len (by decide) (HSO.out.below HBI.out) (by omega)
              rw [had] at c5
              have e0 := hcell.at0 hj2 (v := .int .i64 (s1.spots[j]!).1) rfl
              have e1 := hcell.at' hj2 1 (by decide) (v := .int .i64 (s1.spots[j]!).2) rfl
              obtain ⟨y, hy⟩ : ∃ y, s1.spots[j]! = y := ⟨_, rfl⟩
              rw [hy] at e0 e1
              have HY := Lib.hid hy
              have HAD := Lib.hid had
              have b1 : (0 : Int) ≤ (j : Int) := by omega
              have b2 : (j : Int) < (s1.spots.length : Int) := by omega
              have hsnoc : s1.spots.take (j + 1) = s1.spots.take j ++ [y] := by
                rw [List.take_add_one, List.getElem?_eq_getElem hj2, ← hy, getElem!_pos s1.spots j hj2]
                rfl
              have HSN := Lib.hid hsnoc
              clear hy had hcell hsnoc
              by_cases hlt3 : y.1 < s1.here
              · have hk3 : keepS s1.here y = true := by unfold keepS; simpa using hlt3
                have HK3 := Lib.hid hk3
                clear hk3
                go_wp2_with fail
                go_quiet (fail)
                obtain ⟨w5, hw5⟩ : ∃ w5, wr.drewN nq = w5 := ⟨_, rfl⟩
                have c5 : w5.cell? ⟨w.heap.size, 5, none⟩ = some (.slice (some ad2) s1.spots.length q1.sc) := by rw [← hw5]; exact c5
                have e0 : w5.cell? (ad2.add (j * 2)) = some (.int .i64 y.1) := by rw [← hw5]; exact e0
                have e1 : w5.cell? ⟨(ad2.add (j * 2)).block, (ad2.add (j * 2)).off + 1, none⟩ = some (.int .i64 y.2) := by rw [← hw5]; exact e1
                have HO5 := Lib.hid (own_below HO.out (below_drewN wr nq))
                have HB5 := Lib.hid (below_two HBI.out (below_drewN wr nq))
                rw [hw5] at HO5 HB5 ⊢
                have hW5 : W.heap.size ≤ w5.heap.size := HB5.out.size
                clear c8 hw5 HO HBI
                go_wp2_with (refine wp_app (w0 := w5) rfl (.tmp 46) (.tmp 52) 26 86 _ 2 16 rfl Tryd.underlying26 infoSp rfl (by decide) (by decide) W.heap.size _ ((s1.spots.take j).filter (keepS s1.here)).length (ecells encSp ((s1.spots.take j).filter (keepS s1.here))) rfl (HO5.out.alloc _) (some ⟨w5.heap.size, 0, none⟩) 1 1 (ecells encSp [y]) rfl (rd_alloc _ _ _ _ _ _ _ _ rfl rfl (by decide) (by decide)) (ecells_one_sp _) (by omega) (by simp; omega) (((Below.refl w5.heap.size w5).alloc (Nat.le_refl _) _).mono hW5) ?_)
                intro y6 w6 ho hb _
                have HO6 := Lib.hid ho
                have HB6 := Lib.hid (HB5.out.trans hb)
                clear ho hb c5 e0 e1 HO5 HB5
                go_wp2
                go_roundw
                case rel =>
                  refine ⟨j + 1, by go_num, by omega, ?_, HB6⟩
                  rw [HSN.out, List.filter_append, List.filter_cons_of_pos HK3.out, List.filter_nil, List.length_append, ecells_app]
                  exact HO6
                case measure => simp [intOf] <;> omega
              · have hk3 : keepS s1.here y = false := by unfold keepS; simpa using hlt3
                have HK3 := Lib.hid hk3
                clear hk3
                go_wp2_with fail
                go_quiet (fail)
                have HO5 := Lib.hid (own_below HO.out (below_drewN wr nq))
                have HB5 := Lib.hid (below_two HBI.out (below_drewN wr nq))
                clear HO HBI
                go_wp2
                go_roundw
                case rel =>
                  refine ⟨j + 1, by go_num, by omega, ?_, HB5⟩
                  rw [HSN.out, List.filter_append, List.filter_cons_of_neg (by rw [HK3.out]; decide), List.filter_nil, List.append_nil]
                  exact HO5
                case measure => simp [intOf] <;> omega
            · have hjL : j = s1.spots.length := by omega
              rw [hjL, List.take_length] at HO
              rw [hjL, List.take_length] at hfl
              obtain ⟨m, hm⟩ : ∃ m, s1.spots.filter (keepS s1.here) = m := ⟨_, rfl⟩
              rw [hm] at HO hfl
              have c5 : wr.cell? ⟨w.heap.size, 5, none⟩ = some (.slice q1.s s1.spots.length q1.sc) := (HGW.out.below HBI.out).cell 5
              have c8 : wr.cell? ⟨w.heap.size, 8, none⟩ = some (.int .i64 s1.here) := (HGW.out.below HBI.out).cell 8
              have c10 : wr.cell? ⟨w.heap.size, 10, none⟩ = some (.int .i64 s1.tok) := (HGW.out.below HBI.out).cell 10
              have hWr : W.heap.size ≤ wr.heap.size := HBI.out.size
              have HMM := Lib.hid hm
              clear hm
              go_wp2_with (refine wp_app (w0 := wr) rfl (.tmp 54) (.tmp 60) 26 86 _ 2 16 rfl Tryd.underlying26 infoSp rfl (by decide) (by decide) W.heap.size _ m.length (ecells encSp m) rfl (HO.out.alloc _) (some ⟨wr.heap.size, 0, none⟩) 1 1 (ecells encSp [(s1.here, s1.tok)]) rfl (rd_alloc _ _ _ _ _ _ _ _ rfl rfl (by decide) (by decide)) (ecells_one_sp _) (by omega) (by simp; omega) (((Below.refl wr.heap.size wr).alloc (Nat.le_refl _) _).mono hWr) ?_)
              intro y6 w6 ho hb _
              have HO6 := Lib.hid ho
              have HBI6 := Lib.hid (HBI.out.trans hb)
              clear ho hb c5 c8 c10 HO HBI
              have HT6 := Lib.hid (HT.out.below HBI6.out)
              have HG6 := Lib.hid (HGW.out.below HBI6.out)
              have HR6 := Lib.hid (HRW.out.below HBI6.out)
              have HS6 := Lib.hid (HSW.out.below HBI6.out)
              have HB6 := Lib.hid (below_two HBW.out HBI6.out)
              obtain ⟨A6, c6, rfl, _⟩ := Rd.own HO6.out
              go_wp2_with (refine wp_storeF rfl 26 _ _ rfl T 5 _ rfl rfl rfl 28 (stL q2 s2) HT6.out 15 rfl (by decide) info1s ?_)
              intro w7 hg7 hw7
              have hlen : (m ++ [(s1.here, s1.tok)]).length = m.length + 1 := by simp
              have hs3 : layS s1 x = { s2 with spots := m ++ [(s1.here, s1.tok)] } := by rw [HLAY.out, ← HMM.out]
              have HT7 : Hid (Bx w7 T 28 (stL { q2 with s := A6, sc := c6 } (layS s1 x))) := Lib.hid (by
                rw [hs3]
                have e : stL { q2 with s := A6, sc := c6 } { s2 with spots := m ++ [(s1.here, s1.tok)] } = (stL q2 s2).set 5 (.slice A6 (m.length + 1) c6) := by
                  simp [stL]
                rw [e]
                exact hg7)
              have HG7 := Lib.hid (HG6.out.grown hw7 (by omega))
              have HR7 := Lib.hid (HR6.out.grown hw7 (by omega))
              have HB7 := Lib.hid (below_grown HB6.out HB6.out.size hw7 (by omega))
              have HO7 := Lib.hid (own_keep HO6.out hw7 (by omega))
              have HS7 : Hid (Res (w.heap.size + 2) q s w7 { q2 with s := A6, sc := c6 } (layS s1 x)) := Lib.hid (by
                rw [hs3]
                refine (HS6.out.grown' HLT.out hw7).withSpots ?_ ?_
                · have := own_rd HO7.out
                  rw [← ecells_app] at this
                  show Rd w7 A6 (m ++ [(s1.here, s1.tok)]).length c6 2 _
                  rw [hlen]
                  exact this
                · rw [hlen]
                  exact own_block_ge (own_mono HO7.out hWw))
              clear hg7 hw7 hlen hs3 HO6 HG6 HR6 HB6 HS6 HT6
              go_wp2_with (first
                | (refine wp_loadS rfl 28 _ rfl T rfl 28 _ _ HT7.out Tryd.underlying28 rfl 15 infoSt rfl ?_)
                | (refine wp_storeS rfl 28 _ _ rfl w.heap.size (stL { q2 with s := A6, sc := c6 } (layS s1 x)) rfl rfl 28 _ HG7.out 15 infoSt rfl rfl rfl ?_))
              intro w8 hg8 hw8
              have HG8 := Lib.hid hg8
              have HR8 := Lib.hid (HR7.out.grown hw8 (by omega))
              have HB8 := Lib.hid (below_grown HB7.out HB7.out.size hw8 (Nat.le_refl _))
              have HS8 := Lib.hid (HS7.out.grown HPw.out hw8 (Nat.le_refl _) (by omega))
              clear hg8 hw8
              go_wp2
              go_roundw
              case rel => exact ⟨k + 1, _, _, by go_num, by omega, HEN, HG8, HR8, HS8, HB8⟩
              case measure => simp [intOf] <;> omega
        · have b1 : (e1 != 0) = true := by simpa using h0
          have hst := HE.out.stop (by rw [HN.out]; exact hlt) (by rw [HE1.out]; exact h0)
          rw [HE1.out] at hst
          obtain ⟨rfl, rfl⟩ := hst
          go_wp2_with (refine wp_storeS rfl 28 _ _ rfl (w.heap.size + 1) (stL nilA zeroP) rfl rfl 28 _ HRW.out 15 infoSt rfl rfl rfl ?_)
          intro w4 hr4 hw4
          have HB4 := Lib.hid (below_grown HBW.out HBW.out.size hw4 (by omega))
          have HR4 := Lib.hid hr4
          clear hr4 hw4
          go_wp2
          refine bodyPost_ret (v := .tuple #[stV nilA zeroP, .int .i64 er]) (results_S Tryd.results24 _ _ _ 28 _ _ rfl HR4.out Tryd.underlying28 rfl 15 infoSt rfl _ rfl) rfl ?_
          exact ⟨nilA, rfl, Res.zero _ _ _ _, HB4.out⟩
      · obtain ⟨W, hW⟩ : ∃ W, (((((((((((((((w2.setCell ⟨wr.heap.size, 0, none⟩ (.slice q2.m (commaS s1 x).mem.length q2.mc)).setCell ⟨wr.heap.size, 1, none⟩ (.slice q2.d (commaS s1 x).data.length q2.dc)).setCell ⟨wr.heap.size, 2, none⟩ (.slice q2.r (commaS s1 x).ret.length q2.rc)).setCell ⟨wr.heap.size, 3, none⟩ (.slice q2.c (commaS s1 x).ctl.length q2.cc)).setCell ⟨wr.heap.size, 4, none⟩ (.slice q2.w (commaS s1 x).words.length q2.wc)).setCell ⟨wr.heap.size, 5, none⟩ (.slice q2.s (commaS s1 x).spots.length q2.sc)).setCell ⟨wr.heap.size, 6, none⟩ (.slice q2.o (commaS s1 x).out.length q2.oc)).setCell ⟨wr.heap.size, 7, none⟩ (.int .i64 (commaS s1 x).ip)).setCell ⟨wr.heap.size, 8, none⟩ (.int .i64 (commaS s1 x).here)).setCell ⟨wr.heap.size, 9, none⟩ (.int .i64 (commaS s1 x).pos)).setCell ⟨wr.heap.size, 10, none⟩ (.int .i64 (commaS s1 x).tok)).setCell ⟨wr.heap.size, 11, none⟩ (.int .i64 (commaS s1 x).inp)).setCell ⟨wr.heap.size, 12, none⟩ (.int .i64 (commaS s1 x).err)).setCell ⟨wr.heap.size, 13, none⟩ (.bool (commaS s1 x).comp)).setCell ⟨wr.heap.size, 14, none⟩ (.bool (commaS s1 x).halt)) = W := ⟨_, rfl⟩
        rename_i hheld
        have hSW := hheld.1
        clear hheld
        rw [hW] at hSW ⊢
        have HT : Hid (Bx W wr.heap.size 28 (stL q2 (commaS s1 x))) := Lib.hid (by rw [← hW]; exact (((((((((((((((HZ2.out.setc 0 (.slice q2.m (commaS s1 x).mem.length q2.mc)).setc 1 (.slice q2.d (commaS s1 x).data.length q2.dc)).setc 2 (.slice q2.r (commaS s1 x).ret.length q2.rc)).setc 3 (.slice q2.c (commaS s1 x).ctl.length q2.cc)).setc 4 (.slice q2.w (commaS s1 x).words.length q2.wc)).setc 5 (.slice q2.s (commaS s1 x).spots.length q2.sc)).setc 6 (.slice q2.o (commaS s1 x).out.length q2.oc)).setc 7 (.int .i64 (commaS s1 x).ip)).setc 8 (.int .i64 (commaS s1 x).here)).setc 9 (.int .i64 (commaS s1 x).pos)).setc 10 (.int .i64 (commaS s1 x).tok)).setc 11 (.int .i64 (commaS s1 x).inp)).setc 12 (.int .i64 (commaS s1 x).err)).setc 13 (.bool (commaS s1 x).comp)).setc 14 (.bool (commaS s1 x).halt)))
        have HSW : Hid (Res (w.heap.size + 2) q s W q2 (commaS s1 x)) := Lib.hid (HS.out.trans (show Res (wr.heap.size + 1) q1 s1 W q2 (commaS s1 x) by (rw [← hW]; (iterate 15 refine Res.setc ?_ HS.out.rd (Nat.le_refl _) (Nat.lt_succ_self _)); exact HC2.out.mono (by simp))) (by omega))
        have HSO := Lib.hid (HS.out.rd.spots.below hSW)
        have HGW := Lib.hid (HG.out.below hSW)
        have HRW := Lib.hid (HR.out.below hSW)
        have HBW := Lib.hid (below_two HB.out hSW)
        have HLT : Hid (Lies q2 (commaS s1 x) (fun b => b ≠ wr.heap.size)) := Lib.hid (((HC2.out.mono (show wr.heap.size + 1 ≤ _ by simp)).lies _ HS.out.rd.lies).mono (fun b h => by rcases h with h | h <;> omega))
        obtain ⟨T, hT⟩ : ∃ T, wr.heap.size = T := ⟨_, rfl⟩
        have hTl : wr.heap.size ≤ T := by rw [← hT]; exact Nat.le_refl _
        rw [hT] at HT HLT ⊢
        clear hW hS HC2 HBB hT hSW HZ2 z0 z1 z2 z3 z4 z5 z6 z7 z8 z9 z10 z11 z12 z13 z14 f0 f1 f2 f3 f4 f5 f6 f7 f8 f9 f10 f11 f12 f13 f14
        clear KEEP hcx
        have hTw : T < W.heap.size := HT.out.lt
        by_cases h0 : e1 = 0
        · subst h0
          obtain ⟨hsp1, htk1⟩ := commaS_spots (v := x) HE1.out
          have hspn : s1.spots.length ≤ s.spots.length + k := HE.out.spots
          have hlay : layS s1 x = { commaS s1 x with spots := (s1.spots.filter (keepS s1.here)) ++ [(s1.here, s1.tok)] } := rfl
          have HEN := Lib.hid (HE.out.next (by rw [HN.out]; exact hlt) HE1.out)
          rw [HXK.out] at HEN
          generalize commaS s1 x = s2 at *
          have HLAY := Lib.hid hlay
          clear hlay hsp1 htk1
          have HW0 := Lib.hid (Below.refl W.heap.size W)
          have hWw : w.heap.size + 2 ≤ W.heap.size := by omega
          go_wp2_with fail
          go_loopw [9, 10] (fun v y wi => ∃ (j : Nat), y = .int .i64 j ∧ j ≤ s1.spots.length ∧ Hid (wi.ownsRow W.heap.size 86 2 v ((s1.spots.take j).filter (keepS s1.here)).length (ecells encSp ((s1.spots.take j).filter (keepS s1.here)))) ∧ Hid (Below W.heap.size W wi)) (fun _ y _ => s1.spots.length - (intOf y).toNat)
          case atStart => exact ⟨0, rfl, by omega, Lib.hid ⟨rfl, .inl ⟨rfl, rfl⟩⟩, HW0⟩
          case round =>
            obtain ⟨j, rfl, hj, HO, HBI⟩ := hrel
            have hfl : ((s1.spots.take j).filter (keepS s1.here)).length ≤ j := by
              have := List.length_filter_le (keepS s1.here) (s1.spots.take j)
              simp at this
              omega
            by_cases hj2 : j < s1.spots.length
            · have c5 : wr.cell? ⟨w.heap.size, 5, none⟩ = some (.slice q1.s s1.spots.length q1.sc) := (HGW.out.below HBI.out).cell 5
              have c8 : wr.cell? ⟨w.heap.size, 8, none⟩ = some (.int .i64 s1.here) := (HGW.out.below HBI.out).cell 8
              obtain ⟨ad2, had, hcell⟩ := RdE.all encSp_len (by decide) (HSO.out.below HBI.out) (by omega)
              rw [had] at c5
              have e0 := hcell.at0 hj2 (v := .int .i64 (s1.spots[j]!).1) rfl
              have e1 := hcell.at' hj2 1 (by decide) (v := .int .i64 (s1.spots[j]!).2) rfl
              obtain ⟨y, hy⟩ : ∃ y, s1.spots[j]! = y := ⟨_, rfl⟩
              rw [hy] at e0 e1
              have HY := Lib.hid hy
              have HAD := Lib.hid had
              have b1 : (0 : Int) ≤ (j : Int) := by omega
              have b2 : (j : Int) < (s1.spots.length : Int) := by omega
              have hsnoc : s1.spots.take (j + 1) = s1.spots.take j ++ [y] := by
                rw [List.take_add_one, List.getElem?_eq_getElem hj2, ← hy, getElem!_pos s1.spots j hj2]
                rfl
              have HSN := Lib.hid hsnoc
              clear hy had hcell hsnoc
              by_cases hlt3 : y.1 < s1.here
              · have hk3 : keepS s1.here y = true := by unfold keepS; simpa using hlt3
                have HK3 := Lib.hid hk3
                clear hk3
                go_wp2_with fail
                go_quiet (fail)
                obtain ⟨w5, hw5⟩ : ∃ w5, wr.drewN nq = w5 := ⟨_, rfl⟩
                have c5 : w5.cell? ⟨w.heap.size, 5, none⟩ = some (.slice (some ad2) s1.spots.length q1.sc) := by rw [← hw5]; exact c5
                have e0 : w5.cell? (ad2.add (j * 2)) = some (.int .i64 y.1) := by rw [← hw5]; exact e0
                have e1 : w5.cell? ⟨(ad2.add (j * 2)).block, (ad2.add (j * 2)).off + 1, none⟩ = some (.int .i64 y.2) := by rw [← hw5]; exact e1
                have HO5 := Lib.hid (own_below HO.out (below_drewN wr nq))
                have HB5 := Lib.hid (below_two HBI.out (below_drewN wr nq))
                rw [hw5] at HO5 HB5 ⊢
                have hW5 : W.heap.size ≤ w5.heap.size := HB5.out.size
                clear c8 hw5 HO HBI
                go_wp2_with (refine wp_app (w0 := w5) rfl (.tmp 46) (.tmp 52) 26 86 _ 2 16 rfl Tryd.underlying26 infoSp rfl (by decide) (by decide) W.heap.size _ ((s1.spots.take j).filter (keepS s1.here)).length (ecells encSp ((s1.spots.take j).filter (keepS s1.here))) rfl (HO5.out.alloc _) (some ⟨w5.heap.size, 0, none⟩) 1 1 (ecells encSp [y]) rfl (rd_alloc _ _ _ _ _ _ _ _ rfl rfl (by decide) (by decide)) (ecells_one_sp _) (by omega) (by simp; omega) (((Below.refl w5.heap.size w5).alloc (Nat.le_refl _) _).mono hW5) ?_)
                intro y6 w6 ho hb _
                have HO6 := Lib.hid ho
                have HB6 := Lib.hid (HB5.out.trans hb)
                clear ho hb c5 e0 e1 HO5 HB5
                go_wp2
                go_roundw
                case rel =>
                  refine ⟨j + 1, by go_num, by omega, ?_, HB6⟩
                  rw [HSN.out, List.filter_append, List.filter_cons_of_pos HK3.out, List.filter_nil, List.length_append, ecells_app]
                  exact HO6
                case measure => simp [intOf] <;> omega
              · have hk3 : keepS s1.here y = false := by unfold keepS; simpa using hlt3
                have HK3 := Lib.hid hk3
                clear hk3
                go_wp2_with fail
                go_quiet (fail)
                have HO5 := Lib.hid (own_below HO.out (below_drewN wr nq))
                have HB5 := Lib.hid (below_two HBI.out (below_drewN wr nq))
                clear HO HBI
                go_wp2
                go_roundw
                case rel =>
                  refine ⟨j + 1, by go_num, by omega, ?_, HB5⟩
                  rw [HSN.out, List.filter_append, List.filter_cons_of_neg (by rw [HK3.out]; decide), List.filter_nil, List.append_nil]
                  exact HO5
                case measure => simp [intOf] <;> omega
            · have hjL : j = s1.spots.length := by omega
              rw [hjL, List.take_length] at HO
              rw [hjL, List.take_length] at hfl
              obtain ⟨m, hm⟩ : ∃ m, s1.spots.filter (keepS s1.here) = m := ⟨_, rfl⟩
              rw [hm] at HO hfl
              have c5 : wr.cell? ⟨w.heap.size, 5, none⟩ = some (.slice q1.s s1.spots.length q1.sc) := (HGW.out.below HBI.out).cell 5
              have c8 : wr.cell? ⟨w.heap.size, 8, none⟩ = some (.int .i64 s1.here) := (HGW.out.below HBI.out).cell 8
              have c10 : wr.cell? ⟨w.heap.size, 10, none⟩ = some (.int .i64 s1.tok) := (HGW.out.below HBI.out).cell 10
              have hWr : W.heap.size ≤ wr.heap.size := HBI.out.size
              have HMM := Lib.hid hm
              clear hm
              go_wp2_with (refine wp_app (w0 := wr) rfl (.tmp 54) (.tmp 60) 26 86 _ 2 16 rfl Tryd.underlying26 infoSp rfl (by decide) (by decide) W.heap.size _ m.length (ecells encSp m) rfl (HO.out.alloc _) (some ⟨wr.heap.size, 0, none⟩) 1 1 (ecells encSp [(s1.here, s1.tok)]) rfl (rd_alloc _ _ _ _ _ _ _ _ rfl rfl (by decide) (by decide)) (ecells_one_sp _) (by omega) (by simp; omega) (((Below.refl wr.heap.size wr).alloc (Nat.le_refl _) _).mono hWr) ?_)
              intro y6 w6 ho hb _
              have HO6 := Lib.hid ho
              have HBI6 := Lib.hid (HBI.out.trans hb)
              clear ho hb c5 c8 c10 HO HBI
              have HT6 := Lib.hid (HT.out.below HBI6.out)
              have HG6 := Lib.hid (HGW.out.below HBI6.out)
              have HR6 := Lib.hid (HRW.out.below HBI6.out)
              have HS6 := Lib.hid (HSW.out.below HBI6.out)
              have HB6 := Lib.hid (below_two HBW.out HBI6.out)
              obtain ⟨A6, c6, rfl, _⟩ := Rd.own HO6.out
              go_wp2_with (refine wp_storeF rfl 26 _ _ rfl T 5 _ rfl rfl rfl 28 (stL q2 s2) HT6.out 15 rfl (by decide) info1s ?_)
              intro w7 hg7 hw7
              have hlen : (m ++ [(s1.here, s1.tok)]).length = m.length + 1 := by simp
              have hs3 : layS s1 x = { s2 with spots := m ++ [(s1.here, s1.tok)] } := by rw [HLAY.out, ← HMM.out]
              have HT7 : Hid (Bx w7 T 28 (stL { q2 with s := A6, sc := c6 } (layS s1 x))) := Lib.hid (by
                rw [hs3]
                have e : stL { q2 with s := A6, sc := c6 } { s2 with spots := m ++ [(s1.here, s1.tok)] } = (stL q2 s2).set 5 (.slice A6 (m.length + 1) c6) := by
                  simp [stL]
                rw [e]
                exact hg7)
              have HG7 := Lib.hid (HG6.out.grown hw7 (by omega))
              have HR7 := Lib.hid (HR6.out.grown hw7 (by omega))
              have HB7 := Lib.hid (below_grown HB6.out HB6.out.size hw7 (by omega))
              have HO7 := Lib.hid (own_keep HO6.out hw7 (by omega))
              have HS7 : Hid (Res (w.heap.size + 2) q s w7 { q2 with s := A6, sc := c6 } (layS s1 x)) := Lib.hid (by
                rw [hs3]
                refine (HS6.out.grown' HLT.out hw7).withSpots ?_ ?_
                · have := own_rd HO7.out
                  rw [← ecells_app] at this
                  show Rd w7 A6 (m ++ [(s1.here, s1.tok)]).length c6 2 _
                  rw [hlen]
                  exact this
                · rw [hlen]
                  exact own_block_ge (own_mono HO7.out hWw))
              clear hg7 hw7 hlen hs3 HO6 HG6 HR6 HB6 HS6 HT6
              go_wp2_with (first
                | (refine wp_loadS rfl 28 _ rfl T rfl 28 _ _ HT7.out Tryd.underlying28 rfl 15 infoSt rfl ?_)
                | (refine wp_storeS rfl 28 _ _ rfl w.heap.size (stL { q2 with s := A6, sc := c6 } (layS s1 x)) rfl rfl 28 _ HG7.out 15 infoSt rfl rfl rfl ?_))
              intro w8 hg8 hw8
              have HG8 := Lib.hid hg8
              have HR8 := Lib.hid (HR7.out.grown hw8 (by omega))
              have HB8 := Lib.hid (below_grown HB7.out HB7.out.size hw8 (Nat.le_refl _))
              have HS8 := Lib.hid (HS7.out.grown HPw.out hw8 (Nat.le_refl _) (by omega))
              clear hg8 hw8
              go_wp2
              go_roundw
              case rel => exact ⟨k + 1, _, _, by go_num, by omega, HEN, HG8, HR8, HS8, HB8⟩
              case measure => simp [intOf] <;> omega
        · have b1 : (e1 != 0) = true := by simpa using h0
          have hst := HE.out.stop (by rw [HN.out]; exact hlt) (by rw [HE1.out]; exact h0)
          rw [HE1.out] at hst
          obtain ⟨rfl, rfl⟩ := hst
          go_wp2_with (refine wp_storeS rfl 28 _ _ rfl (w.heap.size + 1) (stL nilA zeroP) rfl rfl 28 _ HRW.out 15 infoSt rfl rfl rfl ?_)
          intro w4 hr4 hw4
          have HB4 := Lib.hid (below_grown HBW.out HBW.out.size hw4 (by omega))
          have HR4 := Lib.hid hr4
          clear hr4 hw4
          go_wp2
          refine bodyPost_ret (v := .tuple #[stV nilA zeroP, .int .i64 er]) (results_S Tryd.results24 _ _ _ 28 _ _ rfl HR4.out Tryd.underlying28 rfl 15 infoSt rfl _ rfl) rfl ?_
          exact ⟨nilA, rfl, Res.zero _ _ _ _, HB4.out⟩
    · have hd := HE.out.done (by rw [HN.out]; omega)
      obtain ⟨rfl, rfl⟩ := hd
      go_wp2_with (first
        | (refine wp_loadS rfl 28 _ rfl w.heap.size rfl 28 (stL q1 s') _ HG.out Tryd.underlying28 rfl 15 infoSt rfl ?_)
        | (refine wp_storeS rfl 28 _ _ rfl (w.heap.size + 1) (stL q1 s') rfl rfl 28 _ HR.out 15 infoSt rfl rfl rfl ?_))
      intro w4 hr4 hw4
      have HR4 := Lib.hid hr4
      have HB4 := Lib.hid (below_grown HB.out HB.out.size hw4 (by omega))
      have HS4 := Lib.hid (HS.out.grown HPw.out hw4 (by omega) (by omega))
      clear hr4 hw4
      go_wp2
      refine bodyPost_ret (v := .tuple #[stV q1 s', .int .i64 0]) (results_S Tryd.results24 _ _ _ 28 _ _ rfl HR4.out Tryd.underlying28 rfl 15 infoSt rfl _ rfl) rfl ?_
      exact ⟨_, rfl, HS4.out.mono (by omega), HB4.out⟩
end Go.Proofs.YtfkkmlgblhnkaaaDoor
