
/- rle.Put: the loop's body, in a round. -/
import Derived.Test.YticebanhccgglaaDoorRound
import Derived.Test.YticebanhccgglaaDoorStepApp
import Derived.Test.YticebanhccgglaaDoorRNum16
import Derived.Test.YticebanhccgglaaDoorPlain17b
namespace Go.Proofs.YticebanhccgglaaDoor
open Go.RowKit
attribute [local go_sem] Oper.semAt_some

/-- The loop's assignment and its body, out of the function's text. -/
noncomputable def putAssign : Code := match Tryd.f9.body with
  | some (.seq _ (.seq _ (.seq (.seq _ (.block _ (.rangeFunc _ _ a _))) _))) => a
  | _ => .skip
noncomputable def putBody : Code := match Tryd.f9.body with
  | some (.seq _ (.seq _ (.seq (.seq _ (.block _ (.rangeFunc _ _ _ b))) _))) => b
  | _ => .skip
noncomputable def putRec (fn : FuncId) (A : Option Addr) (n c g : Nat) (st : LoopState) : Loop :=
  { state := st, pending := none, fn, tmps := #[.slice A n c, undef, .slice none 0 0, .pointer (some ⟨g, 0, none⟩), undef, undef, .slice A n c, .func (.func 20) #[] #[.pointer (some ⟨g + 1, 0, none⟩)], undef, undef, undef, undef, undef, undef, undef, undef, undef, undef], params := #[8, 9], assign := putAssign, body := putBody, defers := g + 2 }
/-- Between two rounds: out holds what was said; the rest is told by its own box. -/
structure Mid (w : World) (r : Loop) (A : Option Addr) (c n : Nat) (rest out : List Int) (K : Nat) (W : World) : Prop where
  L : W.heap[w.heap.size + 3]? = some (.loop r)
  D : W.heap[w.heap.size + 2]? = some (.deferred (some []))
  box : Bx W (w.heap.size + 1) 22 [.slice A n c]
  len : rest.length = n
  olen : out.length = K
  rd : RdI w .u8 A c rest
  out : ∃ A7 c7, Bx W w.heap.size 22 [.slice A7 K c7] ∧ W.ownsRow (w.heap.size + 4) 5 1 (.slice A7 K c7) K (nums .u8 out)
  bel : Below w.heap.size w W
theorem Mid.lt {w W : World} {r : Loop} {A : Option Addr} {c n K : Nat} {rest out : List Int} (h : Mid w r A c n rest out K W) : w.heap.size + 4 ≤ W.heap.size := (Array.getElem?_eq_some_iff.1 h.L).1
theorem rd_one17 (w : World) (x : Int) : Rd (w.alloc (.cells #[.int .u8 x] 5)) (some ⟨w.heap.size, 0, none⟩) 1 1 1 (nums .u8 [x]) := rd_alloc w (nums .u8 [x]) #[.int .u8 x] 5 (0, 0) 1 1 1 rfl rfl (by decide) (by decide)
/-- What is left when a round is over. -/
theorem put_fin {fn : FuncId} {Al A A7 : Option Addr} {nl cl c n K0 NG c7 k : Nat} {rest out G : List Int} {x : Int} {w W2 V : World} {v0 : Value} {v : Value} (hv : v = .slice A7 (K0 + NG + 1) c7)
    (hL : W2.heap[w.heap.size + 3]? = some (.loop (putRec fn Al nl cl w.heap.size .busy))) (hD : W2.heap[w.heap.size + 2]? = some (.deferred (some []))) (hbox : Bx W2 (w.heap.size + 1) 22 [.slice A n c]) (hbel : Below w.heap.size w W2)
    (hb : Below (w.heap.size + 4) W2 V) (hbx : Bx V w.heap.size 22 [v0]) (ho : V.ownsRow (w.heap.size + 4) 5 1 v (K0 + NG + 1) (nums .u8 out ++ nums .u8 G ++ nums .u8 [x])) (hlen : rest.length = n) (hol : out.length = K0) (hng : G.length = NG) (hG : grp (zz (k : Int)) = G) (hrd : RdI w .u8 A c rest) :
    ∃ b w', (Instr.endRound (w.heap.size + 3) none).run Tryd.prog (V.setCell ⟨w.heap.size, 0, none⟩ v) = .ok b w' ∧ Ending.returned b = .returned (.bool true) ∧ Mid w (putRec fn Al nl cl w.heap.size .ready) A c n rest (out ++ encR (k, x)) (K0 + NG + 1) w' := by
  subst hv
  have hlV : V.heap[w.heap.size + 3]? = some (.loop (putRec fn Al nl cl w.heap.size .busy)) := Below.heapAt hb (by omega) hL
  have hg := grown_setCell V w.heap.size 0 (.slice A7 (K0 + NG + 1) c7)
  have hl1 := heap_grown hlV hg (by omega)
  have hgr := grownBy_putObj' (V.setCell ⟨w.heap.size, 0, none⟩ (.slice A7 (K0 + NG + 1) c7)) (w.heap.size + 3) (.loop (putRec fn Al nl cl w.heap.size .ready))
  have hbx2 := hbx.setc 0 (.slice A7 (K0 + NG + 1) c7)
  have hlt : w.heap.size + 3 < (V.setCell ⟨w.heap.size, 0, none⟩ (.slice A7 (K0 + NG + 1) c7)).heap.size := (Array.getElem?_eq_some_iff.1 hl1).1
  refine ⟨_, _, run_endRound none hl1, rfl, World.putObj_heap_same hlt, ?_, ?_, hlen, ?_, hrd, ⟨A7, c7, hbx2.grown hgr (by omega), ?_⟩, ?_⟩
  · exact heap_grown (heap_grown (Below.heapAt hb (by omega) hD) hg (by omega)) hgr (by omega)
  · exact ((show Bx V _ _ _ from Below.heapAt hb (by omega) hbox).grown hg (by omega)).grown hgr (by omega)
  · unfold encR
    simp [hol, hG, hng]
    omega
  · have h1 := own_keep (own_keep ho hg (by omega)) hgr (by omega)
    have e : nums .u8 (out ++ encR (k, x)) = nums .u8 out ++ nums .u8 G ++ nums .u8 [x] := by
      unfold encR
      rw [hG]
      simp [nums]
    rw [e]
    exact h1
  · have hVs : w.heap.size ≤ V.heap.size := by have := (Array.getElem?_eq_some_iff.1 hlV).1; omega
    exact below_grown (below_grown (hbel.trans (hb.mono (by omega))) hVs hg (Nat.le_refl _)) (by omega) hgr (by omega)

set_option maxRecDepth 100000 in
set_option maxHeartbeats 4000000 in
theorem put_round (fn : FuncId) (m : Nat) (Al A : Option Addr) (nl cl c n K0 k : Nat) (x : Int) (rest out : List Int) (w W : World) (h : Mid w (putRec fn Al nl cl w.heap.size .ready) A c n rest out K0 W) (h1 : k ≤ 1000000) (hK : K0 ≤ 10000000) :
    RoundIn Fence.wide m Tryd.prog (w.heap.size + 3) fn #[.slice Al nl cl, undef, .slice none 0 0, .pointer (some ⟨w.heap.size, 0, none⟩), undef, undef, .slice Al nl cl, .func (.func 20) #[] #[.pointer (some ⟨w.heap.size + 1, 0, none⟩)], .int .i64 k, .int .u8 x, undef, undef, undef, undef, undef, undef, undef, undef] putAssign putBody W
      fun e W' => e = .returned (.bool true) ∧ ∃ K1, Mid w (putRec fn Al nl cl w.heap.size .ready) A c n rest (out ++ encR (k, x)) K1 W' := by
  refine roundIn_of_wpIn trivial ?_
  obtain ⟨hL, hD, hbox, hlen, hol, hrd, ⟨A7, c7, hob, hoo⟩, hbel⟩ := h
  have hlW : w.heap.size + 3 < W.heap.size := (Array.getElem?_eq_some_iff.1 hL).1
  have hbr := run_beginRound (P := Tryd.prog) hL rfl
  have hgr := grownBy_putObj' W (w.heap.size + 3) (.loop (putRec fn Al nl cl w.heap.size .busy))
  obtain ⟨W1, hW1⟩ : ∃ W1, W.putObj (w.heap.size + 3) (.loop (putRec fn Al nl cl w.heap.size .busy)) = W1 := ⟨_, rfl⟩
  rw [show ({ putRec fn Al nl cl w.heap.size .ready with state := LoopState.busy } : Loop) = putRec fn Al nl cl w.heap.size .busy from rfl, hW1] at hbr
  have hL1 : W1.heap[w.heap.size + 3]? = some (.loop (putRec fn Al nl cl w.heap.size .busy)) := by rw [← hW1]; exact World.putObj_heap_same hlW
  rw [hW1] at hgr
  have hD1 := heap_grown hD hgr (by omega)
  have hbox1 := hbox.grown hgr (by omega)
  have hob1 := hob.grown hgr (by omega)
  have hoo1 := own_keep hoo hgr (by omega)
  have hbel1 := below_grown hbel (by omega) hgr (by omega)
  have hs1 : w.heap.size + 4 ≤ W1.heap.size := by have := hgr.size; omega
  clear hW1 hL hD hbox hob hoo hbel hgr hlW
  have HBR := Lib.hid hbr
  obtain ⟨G, hG⟩ : ∃ G, grp (zz (k : Int)) = G := ⟨_, rfl⟩
  obtain ⟨NG, hNG⟩ : ∃ NG, G.length = NG := ⟨_, rfl⟩
  have hng10 : NG ≤ 10 := by rw [← hNG, ← hG]; exact (grp_len (zz_lt (n := (k : Int)) (by omega) (by omega))).2
  have HGR := Lib.hid hG
  have HNG := Lib.hid hNG
  have HFIN := Lib.hid (fun V v0 v A7 c7 (hv : v = .slice A7 (K0 + NG + 1) c7) (hb : Below (w.heap.size + 4) W1 V) (hbx : Bx V w.heap.size 22 [v0]) (ho : V.ownsRow (w.heap.size + 4) 5 1 v (K0 + NG + 1) (nums .u8 out ++ nums .u8 G ++ nums .u8 [x])) => put_fin (k := k) hv hL1 hD1 hbox1 hbel1 hb hbx ho hlen hol hNG hG hrd)
  clear hG hNG hL1 hD1 hbox1 hbel1 hlen hol hrd hbr
  unfold putAssign
  dsimp only [Tryd.f9]
  gi_wp2
  refine ⟨W1, HBR.out, ?_⟩
  unfold putBody
  dsimp only [Tryd.f9]
  gi_wp2
  refine wpIn_region_round (by kernel_rfl) (by kernel_rfl) (fun ⟨_, _, h⟩ => h) ?_
  have hb0 : Below (w.heap.size + 4) W1 W1.drew := (Below.refl _ _).drew
  have hbx0 := hob1.below (Below.refl _ W1).drew
  have ho0 := own_below hoo1 (Below.refl _ W1).drew
  obtain ⟨V0, hV0⟩ : ∃ V, W1.drew = V := ⟨_, rfl⟩
  rw [hV0] at hb0 hbx0 ho0 ⊢
  have c0 : V0.cell? ⟨w.heap.size, 0, none⟩ = some (.slice A7 K0 c7) := hbx0.cell 0
  have f0 := hbx0.free 0
  clear hob1 hoo1 HBR hV0
  refine wpAny_take (i := 1) (v := .int .i64 (k : Int)) rfl (by kernel_rfl) (by kernel_rfl) (by kernel_rfl) (fun _ _ _ h => h) (Or.inl ⟨by rfl, fun w => by go_simp⟩) ?_
  try simp only [Act.put, List.setIfInBounds_toArray, List.set_cons_zero, List.set_cons_succ]
  refine wpAny_take (i := 4) (v := .int .u8 x) rfl (by kernel_rfl) (by kernel_rfl) (by kernel_rfl) (fun _ _ _ h => h) (Or.inl ⟨by rfl, fun w => by go_simp⟩) ?_
  try simp only [Act.put, List.setIfInBounds_toArray, List.set_cons_zero, List.set_cons_succ]
  refine wpAny_ready (rs := [0, 2, 5]) (by kernel_rfl) (by simp) ?_
  refine AllReady.cons rfl (fun K hK => ?_) ?_
  · go_simp
    refine hK _ _ ?_
    clear hK K
    try simp only [Act.put, List.setIfInBounds_toArray, List.set_cons_zero, List.set_cons_succ]
    refine wpAny_ready (rs := [2, 5]) (by kernel_rfl) (by simp) ?_
    refine AllReady.cons rfl (fun K hK => ?_) ?_
    · go_simp
      go_at_call 14
      refine (Num_any (k : Int) _ (by omega) (by omega) G NG HGR.out HNG.out).mono ?_
      rintro e V2 ⟨z, rfl, hz, hw⟩
      obtain ⟨A3_2, c3_2, rfl, src2⟩ := Rd.own hz
      have hb2 := hb0.trans (hw.mono (Nat.le_trans hs1 hb0.size))
      have hbx2 := hbx0.below hw
      have ho2 := own_below ho0 hw
      have c0 : V2.cell? ⟨w.heap.size, 0, none⟩ = some (.slice A7 K0 c7) := hbx2.cell 0
      have f0 := hbx2.free 0
      clear hz hw
      refine hK _ _ ?_
      clear hK K
      try simp only [Act.put, List.setIfInBounds_toArray, List.set_cons_zero, List.set_cons_succ]
      refine wpAny_ready (rs := [3, 5]) (by kernel_rfl) (by simp) ?_
      refine AllReady.cons rfl (fun K hK => ?_) ?_
      · refine step_app (w0 := W1) rfl (.tmp 10) (.tmp 12) 22 5 (.int .u8 0) 1 1 rfl Tryd.underlying22 infoU8 rfl (by decide) (by decide) (w.heap.size + 4) _ K0 (nums .u8 out) rfl ho2 A3_2 NG c3_2 (nums .u8 G) rfl src2 (nums_one _ _) (by omega) (Nat.le_trans hs1 hb2.size) hb2 ?_
        intro v3 V3 ho3 hb3 hg3
        have hbx3 := hbx2.keepOwn hg3 ho2 (by omega)
        have c0 : V3.cell? ⟨w.heap.size, 0, none⟩ = some (.slice A7 K0 c7) := hbx3.cell 0
        have f0 := hbx3.free 0
        refine hK _ _ ?_
        clear hK K
        try simp only [Act.put, List.setIfInBounds_toArray, List.set_cons_zero, List.set_cons_succ]
        refine wpAny_ready (rs := [5]) (by kernel_rfl) (by simp) ?_
        refine AllReady.cons rfl (fun K hK => ?_) ?_
        · go_simp
          have row4 := rd_one17 V3 x
          have hw := below_lit V3 (.cells #[.int .u8 x] 5)
          have hb4 := hb3.trans (hw.mono (Nat.le_trans hs1 hb3.size))
          have hbx4 := hbx3.below hw
          have ho4 := own_below ho3 hw
          have HNO_4 := own_far ho3
          obtain ⟨B4, hB4⟩ : ∃ b, V3.heap.size = b := ⟨_, rfl⟩
          rw [hB4] at row4 HNO_4 ⊢
          obtain ⟨V4, hV4⟩ : ∃ b, V3.alloc (.cells #[.int .u8 x] 5) = b := ⟨_, rfl⟩
          rw [hV4] at row4 hb4 hbx4 ho4  ⊢
          have c0 : V4.cell? ⟨w.heap.size, 0, none⟩ = some (.slice A7 K0 c7) := hbx4.cell 0
          have f0 := hbx4.free 0
          clear hw hV4 hB4
          refine hK _ _ ?_
          clear hK K
          try simp only [Act.put, List.setIfInBounds_toArray, List.set_cons_zero, List.set_cons_succ]
          refine wpAny_ready (rs := [6]) (by kernel_rfl) (by simp) ?_
          refine AllReady.cons rfl (fun K hK => ?_) ?_
          · refine step_app (w0 := W1) rfl (.tmp 13) (.tmp 15) 22 5 (.int .u8 0) 1 1 rfl Tryd.underlying22 infoU8 rfl (by decide) (by decide) (w.heap.size + 4) _ (K0 + NG) (nums .u8 out ++ nums .u8 G) rfl ho4 _ 1 1 (nums .u8 [x]) rfl row4 (nums_one _ _) (by omega) (Nat.le_trans hs1 hb4.size) hb4 ?_
            intro v5 V5 ho5 hb5 hg5
            have hbx5 := hbx4.keepOwn hg5 ho4 (by omega)
            obtain ⟨A9, c9, rfl, _⟩ := Rd.own ho5
            have c0 : V5.cell? ⟨w.heap.size, 0, none⟩ = some (.slice A7 K0 c7) := hbx5.cell 0
            have f0 := hbx5.free 0
            refine hK _ _ ?_
            clear hK K
            try simp only [Act.put, List.setIfInBounds_toArray, List.set_cons_zero, List.set_cons_succ]
            refine wpAny_ready (rs := [7]) (by kernel_rfl) (by simp) ?_
            refine AllReady.cons rfl (fun K hK => ?_) ?_
            · go_simp
              refine hK _ _ ?_
              clear hK K
              try simp only [Act.put, List.setIfInBounds_toArray, List.set_cons_zero, List.set_cons_succ]
              refine wpAny_done (by kernel_rfl) ?_ _
              gi_wp2
              obtain ⟨b, w', e1, e2, e3⟩ := HFIN.out _ _ _ _ _ rfl hb5 hbx5 ho5
              exact ⟨b, w', e1, e2, _, e3⟩
            exact AllReady.nil
          exact AllReady.nil
        exact AllReady.nil
      refine AllReady.cons rfl (fun K hK => ?_) ?_
      · go_simp
        have row7 := rd_one17 V2 x
        have hw := below_lit V2 (.cells #[.int .u8 x] 5)
        have hb7 := hb2.trans (hw.mono (Nat.le_trans hs1 hb2.size))
        have hbx7 := hbx2.below hw
        have ho7 := own_below ho2 hw
        have HNO_7 := own_far ho2
        have src7 := src2.below hw
        obtain ⟨B7, hB7⟩ : ∃ b, V2.heap.size = b := ⟨_, rfl⟩
        rw [hB7] at row7 HNO_7 ⊢
        obtain ⟨V7, hV7⟩ : ∃ b, V2.alloc (.cells #[.int .u8 x] 5) = b := ⟨_, rfl⟩
        rw [hV7] at row7 hb7 hbx7 ho7 src7 ⊢
        have c0 : V7.cell? ⟨w.heap.size, 0, none⟩ = some (.slice A7 K0 c7) := hbx7.cell 0
        have f0 := hbx7.free 0
        clear hw hV7 hB7
        refine hK _ _ ?_
        clear hK K
        try simp only [Act.put, List.setIfInBounds_toArray, List.set_cons_zero, List.set_cons_succ]
        refine wpAny_ready (rs := [3]) (by kernel_rfl) (by simp) ?_
        refine AllReady.cons rfl (fun K hK => ?_) ?_
        · refine step_app (w0 := W1) rfl (.tmp 10) (.tmp 12) 22 5 (.int .u8 0) 1 1 rfl Tryd.underlying22 infoU8 rfl (by decide) (by decide) (w.heap.size + 4) _ K0 (nums .u8 out) rfl ho7 A3_2 NG c3_2 (nums .u8 G) rfl src7 (nums_one _ _) (by omega) (Nat.le_trans hs1 hb7.size) hb7 ?_
          intro v8 V8 ho8 hb8 hg8
          have hbx8 := hbx7.keepOwn hg8 ho7 (by omega)
          have row8 := rd_keepOwn row7 hg8 HNO_7
          have c0 : V8.cell? ⟨w.heap.size, 0, none⟩ = some (.slice A7 K0 c7) := hbx8.cell 0
          have f0 := hbx8.free 0
          refine hK _ _ ?_
          clear hK K
          try simp only [Act.put, List.setIfInBounds_toArray, List.set_cons_zero, List.set_cons_succ]
          refine wpAny_ready (rs := [6]) (by kernel_rfl) (by simp) ?_
          refine AllReady.cons rfl (fun K hK => ?_) ?_
          · refine step_app (w0 := W1) rfl (.tmp 13) (.tmp 15) 22 5 (.int .u8 0) 1 1 rfl Tryd.underlying22 infoU8 rfl (by decide) (by decide) (w.heap.size + 4) _ (K0 + NG) (nums .u8 out ++ nums .u8 G) rfl ho8 _ 1 1 (nums .u8 [x]) rfl row8 (nums_one _ _) (by omega) (Nat.le_trans hs1 hb8.size) hb8 ?_
            intro v9 V9 ho9 hb9 hg9
            have hbx9 := hbx8.keepOwn hg9 ho8 (by omega)
            obtain ⟨A9, c9, rfl, _⟩ := Rd.own ho9
            have c0 : V9.cell? ⟨w.heap.size, 0, none⟩ = some (.slice A7 K0 c7) := hbx9.cell 0
            have f0 := hbx9.free 0
            refine hK _ _ ?_
            clear hK K
            try simp only [Act.put, List.setIfInBounds_toArray, List.set_cons_zero, List.set_cons_succ]
            refine wpAny_ready (rs := [7]) (by kernel_rfl) (by simp) ?_
            refine AllReady.cons rfl (fun K hK => ?_) ?_
            · go_simp
              refine hK _ _ ?_
              clear hK K
              try simp only [Act.put, List.setIfInBounds_toArray, List.set_cons_zero, List.set_cons_succ]
              refine wpAny_done (by kernel_rfl) ?_ _
              gi_wp2
              obtain ⟨b, w', e1, e2, e3⟩ := HFIN.out _ _ _ _ _ rfl hb9 hbx9 ho9
              exact ⟨b, w', e1, e2, _, e3⟩
            exact AllReady.nil
          exact AllReady.nil
        exact AllReady.nil
      exact AllReady.nil
    refine AllReady.cons rfl (fun K hK => ?_) ?_
    · go_simp
      have row11 := rd_one17 V0 x
      have hw := below_lit V0 (.cells #[.int .u8 x] 5)
      have hb11 := hb0.trans (hw.mono (Nat.le_trans hs1 hb0.size))
      have hbx11 := hbx0.below hw
      have ho11 := own_below ho0 hw
      have HNO_11 := own_far ho0
      obtain ⟨B11, hB11⟩ : ∃ b, V0.heap.size = b := ⟨_, rfl⟩
      rw [hB11] at row11 HNO_11 ⊢
      obtain ⟨V11, hV11⟩ : ∃ b, V0.alloc (.cells #[.int .u8 x] 5) = b := ⟨_, rfl⟩
      rw [hV11] at row11 hb11 hbx11 ho11  ⊢
      have c0 : V11.cell? ⟨w.heap.size, 0, none⟩ = some (.slice A7 K0 c7) := hbx11.cell 0
      have f0 := hbx11.free 0
      clear hw hV11 hB11
      refine hK _ _ ?_
      clear hK K
      try simp only [Act.put, List.setIfInBounds_toArray, List.set_cons_zero, List.set_cons_succ]
      refine wpAny_ready (rs := [2]) (by kernel_rfl) (by simp) ?_
      refine AllReady.cons rfl (fun K hK => ?_) ?_
      · go_simp
        go_at_call 14
        refine (Num_any (k : Int) _ (by omega) (by omega) G NG HGR.out HNG.out).mono ?_
        rintro e V12 ⟨z, rfl, hz, hw⟩
        obtain ⟨A3_12, c3_12, rfl, src12⟩ := Rd.own hz
        have hb12 := hb11.trans (hw.mono (Nat.le_trans hs1 hb11.size))
        have hbx12 := hbx11.below hw
        have ho12 := own_below ho11 hw
        have c0 : V12.cell? ⟨w.heap.size, 0, none⟩ = some (.slice A7 K0 c7) := hbx12.cell 0
        have f0 := hbx12.free 0
        have row12 := row11.below hw
        clear hz hw
        refine hK _ _ ?_
        clear hK K
        try simp only [Act.put, List.setIfInBounds_toArray, List.set_cons_zero, List.set_cons_succ]
        refine wpAny_ready (rs := [3]) (by kernel_rfl) (by simp) ?_
        refine AllReady.cons rfl (fun K hK => ?_) ?_
        · refine step_app (w0 := W1) rfl (.tmp 10) (.tmp 12) 22 5 (.int .u8 0) 1 1 rfl Tryd.underlying22 infoU8 rfl (by decide) (by decide) (w.heap.size + 4) _ K0 (nums .u8 out) rfl ho12 A3_12 NG c3_12 (nums .u8 G) rfl src12 (nums_one _ _) (by omega) (Nat.le_trans hs1 hb12.size) hb12 ?_
          intro v13 V13 ho13 hb13 hg13
          have hbx13 := hbx12.keepOwn hg13 ho12 (by omega)
          have row13 := rd_keepOwn row12 hg13 HNO_11
          have c0 : V13.cell? ⟨w.heap.size, 0, none⟩ = some (.slice A7 K0 c7) := hbx13.cell 0
          have f0 := hbx13.free 0
          refine hK _ _ ?_
          clear hK K
          try simp only [Act.put, List.setIfInBounds_toArray, List.set_cons_zero, List.set_cons_succ]
          refine wpAny_ready (rs := [6]) (by kernel_rfl) (by simp) ?_
          refine AllReady.cons rfl (fun K hK => ?_) ?_
          · refine step_app (w0 := W1) rfl (.tmp 13) (.tmp 15) 22 5 (.int .u8 0) 1 1 rfl Tryd.underlying22 infoU8 rfl (by decide) (by decide) (w.heap.size + 4) _ (K0 + NG) (nums .u8 out ++ nums .u8 G) rfl ho13 _ 1 1 (nums .u8 [x]) rfl row13 (nums_one _ _) (by omega) (Nat.le_trans hs1 hb13.size) hb13 ?_
            intro v14 V14 ho14 hb14 hg14
            have hbx14 := hbx13.keepOwn hg14 ho13 (by omega)
            obtain ⟨A9, c9, rfl, _⟩ := Rd.own ho14
            have c0 : V14.cell? ⟨w.heap.size, 0, none⟩ = some (.slice A7 K0 c7) := hbx14.cell 0
            have f0 := hbx14.free 0
            refine hK _ _ ?_
            clear hK K
            try simp only [Act.put, List.setIfInBounds_toArray, List.set_cons_zero, List.set_cons_succ]
            refine wpAny_ready (rs := [7]) (by kernel_rfl) (by simp) ?_
            refine AllReady.cons rfl (fun K hK => ?_) ?_
            · go_simp
              refine hK _ _ ?_
              clear hK K
              try simp only [Act.put, List.setIfInBounds_toArray, List.set_cons_zero, List.set_cons_succ]
              refine wpAny_done (by kernel_rfl) ?_ _
              gi_wp2
              obtain ⟨b, w', e1, e2, e3⟩ := HFIN.out _ _ _ _ _ rfl hb14 hbx14 ho14
              exact ⟨b, w', e1, e2, _, e3⟩
            exact AllReady.nil
          exact AllReady.nil
        exact AllReady.nil
      exact AllReady.nil
    exact AllReady.nil
  refine AllReady.cons rfl (fun K hK => ?_) ?_
  · go_simp
    go_at_call 14
    refine (Num_any (k : Int) _ (by omega) (by omega) G NG HGR.out HNG.out).mono ?_
    rintro e V16 ⟨z, rfl, hz, hw⟩
    obtain ⟨A3_16, c3_16, rfl, src16⟩ := Rd.own hz
    have hb16 := hb0.trans (hw.mono (Nat.le_trans hs1 hb0.size))
    have hbx16 := hbx0.below hw
    have ho16 := own_below ho0 hw
    have c0 : V16.cell? ⟨w.heap.size, 0, none⟩ = some (.slice A7 K0 c7) := hbx16.cell 0
    have f0 := hbx16.free 0
    clear hz hw
    refine hK _ _ ?_
    clear hK K
    try simp only [Act.put, List.setIfInBounds_toArray, List.set_cons_zero, List.set_cons_succ]
    refine wpAny_ready (rs := [0, 5]) (by kernel_rfl) (by simp) ?_
    refine AllReady.cons rfl (fun K hK => ?_) ?_
    · go_simp
      refine hK _ _ ?_
      clear hK K
      try simp only [Act.put, List.setIfInBounds_toArray, List.set_cons_zero, List.set_cons_succ]
      refine wpAny_ready (rs := [3, 5]) (by kernel_rfl) (by simp) ?_
      refine AllReady.cons rfl (fun K hK => ?_) ?_
      · refine step_app (w0 := W1) rfl (.tmp 10) (.tmp 12) 22 5 (.int .u8 0) 1 1 rfl Tryd.underlying22 infoU8 rfl (by decide) (by decide) (w.heap.size + 4) _ K0 (nums .u8 out) rfl ho16 A3_16 NG c3_16 (nums .u8 G) rfl src16 (nums_one _ _) (by omega) (Nat.le_trans hs1 hb16.size) hb16 ?_
        intro v18 V18 ho18 hb18 hg18
        have hbx18 := hbx16.keepOwn hg18 ho16 (by omega)
        have c0 : V18.cell? ⟨w.heap.size, 0, none⟩ = some (.slice A7 K0 c7) := hbx18.cell 0
        have f0 := hbx18.free 0
        refine hK _ _ ?_
        clear hK K
        try simp only [Act.put, List.setIfInBounds_toArray, List.set_cons_zero, List.set_cons_succ]
        refine wpAny_ready (rs := [5]) (by kernel_rfl) (by simp) ?_
        refine AllReady.cons rfl (fun K hK => ?_) ?_
        · go_simp
          have row19 := rd_one17 V18 x
          have hw := below_lit V18 (.cells #[.int .u8 x] 5)
          have hb19 := hb18.trans (hw.mono (Nat.le_trans hs1 hb18.size))
          have hbx19 := hbx18.below hw
          have ho19 := own_below ho18 hw
          have HNO_19 := own_far ho18
          obtain ⟨B19, hB19⟩ : ∃ b, V18.heap.size = b := ⟨_, rfl⟩
          rw [hB19] at row19 HNO_19 ⊢
          obtain ⟨V19, hV19⟩ : ∃ b, V18.alloc (.cells #[.int .u8 x] 5) = b := ⟨_, rfl⟩
          rw [hV19] at row19 hb19 hbx19 ho19  ⊢
          have c0 : V19.cell? ⟨w.heap.size, 0, none⟩ = some (.slice A7 K0 c7) := hbx19.cell 0
          have f0 := hbx19.free 0
          clear hw hV19 hB19
          refine hK _ _ ?_
          clear hK K
          try simp only [Act.put, List.setIfInBounds_toArray, List.set_cons_zero, List.set_cons_succ]
          refine wpAny_ready (rs := [6]) (by kernel_rfl) (by simp) ?_
          refine AllReady.cons rfl (fun K hK => ?_) ?_
          · refine step_app (w0 := W1) rfl (.tmp 13) (.tmp 15) 22 5 (.int .u8 0) 1 1 rfl Tryd.underlying22 infoU8 rfl (by decide) (by decide) (w.heap.size + 4) _ (K0 + NG) (nums .u8 out ++ nums .u8 G) rfl ho19 _ 1 1 (nums .u8 [x]) rfl row19 (nums_one _ _) (by omega) (Nat.le_trans hs1 hb19.size) hb19 ?_
            intro v20 V20 ho20 hb20 hg20
            have hbx20 := hbx19.keepOwn hg20 ho19 (by omega)
            obtain ⟨A9, c9, rfl, _⟩ := Rd.own ho20
            have c0 : V20.cell? ⟨w.heap.size, 0, none⟩ = some (.slice A7 K0 c7) := hbx20.cell 0
            have f0 := hbx20.free 0
            refine hK _ _ ?_
            clear hK K
            try simp only [Act.put, List.setIfInBounds_toArray, List.set_cons_zero, List.set_cons_succ]
            refine wpAny_ready (rs := [7]) (by kernel_rfl) (by simp) ?_
            refine AllReady.cons rfl (fun K hK => ?_) ?_
            · go_simp
              refine hK _ _ ?_
              clear hK K
              try simp only [Act.put, List.setIfInBounds_toArray, List.set_cons_zero, List.set_cons_succ]
              refine wpAny_done (by kernel_rfl) ?_ _
              gi_wp2
              obtain ⟨b, w', e1, e2, e3⟩ := HFIN.out _ _ _ _ _ rfl hb20 hbx20 ho20
              exact ⟨b, w', e1, e2, _, e3⟩
            exact AllReady.nil
          exact AllReady.nil
        exact AllReady.nil
      refine AllReady.cons rfl (fun K hK => ?_) ?_
      · go_simp
        have row22 := rd_one17 V16 x
        have hw := below_lit V16 (.cells #[.int .u8 x] 5)
        have hb22 := hb16.trans (hw.mono (Nat.le_trans hs1 hb16.size))
        have hbx22 := hbx16.below hw
        have ho22 := own_below ho16 hw
        have HNO_22 := own_far ho16
        have src22 := src16.below hw
        obtain ⟨B22, hB22⟩ : ∃ b, V16.heap.size = b := ⟨_, rfl⟩
        rw [hB22] at row22 HNO_22 ⊢
        obtain ⟨V22, hV22⟩ : ∃ b, V16.alloc (.cells #[.int .u8 x] 5) = b := ⟨_, rfl⟩
        rw [hV22] at row22 hb22 hbx22 ho22 src22 ⊢
        have c0 : V22.cell? ⟨w.heap.size, 0, none⟩ = some (.slice A7 K0 c7) := hbx22.cell 0
        have f0 := hbx22.free 0
        clear hw hV22 hB22
        refine hK _ _ ?_
        clear hK K
        try simp only [Act.put, List.setIfInBounds_toArray, List.set_cons_zero, List.set_cons_succ]
        refine wpAny_ready (rs := [3]) (by kernel_rfl) (by simp) ?_
        refine AllReady.cons rfl (fun K hK => ?_) ?_
        · refine step_app (w0 := W1) rfl (.tmp 10) (.tmp 12) 22 5 (.int .u8 0) 1 1 rfl Tryd.underlying22 infoU8 rfl (by decide) (by decide) (w.heap.size + 4) _ K0 (nums .u8 out) rfl ho22 A3_16 NG c3_16 (nums .u8 G) rfl src22 (nums_one _ _) (by omega) (Nat.le_trans hs1 hb22.size) hb22 ?_
          intro v23 V23 ho23 hb23 hg23
          have hbx23 := hbx22.keepOwn hg23 ho22 (by omega)
          have row23 := rd_keepOwn row22 hg23 HNO_22
          have c0 : V23.cell? ⟨w.heap.size, 0, none⟩ = some (.slice A7 K0 c7) := hbx23.cell 0
          have f0 := hbx23.free 0
          refine hK _ _ ?_
          clear hK K
          try simp only [Act.put, List.setIfInBounds_toArray, List.set_cons_zero, List.set_cons_succ]
          refine wpAny_ready (rs := [6]) (by kernel_rfl) (by simp) ?_
          refine AllReady.cons rfl (fun K hK => ?_) ?_
          · refine step_app (w0 := W1) rfl (.tmp 13) (.tmp 15) 22 5 (.int .u8 0) 1 1 rfl Tryd.underlying22 infoU8 rfl (by decide) (by decide) (w.heap.size + 4) _ (K0 + NG) (nums .u8 out ++ nums .u8 G) rfl ho23 _ 1 1 (nums .u8 [x]) rfl row23 (nums_one _ _) (by omega) (Nat.le_trans hs1 hb23.size) hb23 ?_
            intro v24 V24 ho24 hb24 hg24
            have hbx24 := hbx23.keepOwn hg24 ho23 (by omega)
            obtain ⟨A9, c9, rfl, _⟩ := Rd.own ho24
            have c0 : V24.cell? ⟨w.heap.size, 0, none⟩ = some (.slice A7 K0 c7) := hbx24.cell 0
            have f0 := hbx24.free 0
            refine hK _ _ ?_
            clear hK K
            try simp only [Act.put, List.setIfInBounds_toArray, List.set_cons_zero, List.set_cons_succ]
            refine wpAny_ready (rs := [7]) (by kernel_rfl) (by simp) ?_
            refine AllReady.cons rfl (fun K hK => ?_) ?_
            · go_simp
              refine hK _ _ ?_
              clear hK K
              try simp only [Act.put, List.setIfInBounds_toArray, List.set_cons_zero, List.set_cons_succ]
              refine wpAny_done (by kernel_rfl) ?_ _
              gi_wp2
              obtain ⟨b, w', e1, e2, e3⟩ := HFIN.out _ _ _ _ _ rfl hb24 hbx24 ho24
              exact ⟨b, w', e1, e2, _, e3⟩
            exact AllReady.nil
          exact AllReady.nil
        exact AllReady.nil
      exact AllReady.nil
    refine AllReady.cons rfl (fun K hK => ?_) ?_
    · go_simp
      have row26 := rd_one17 V16 x
      have hw := below_lit V16 (.cells #[.int .u8 x] 5)
      have hb26 := hb16.trans (hw.mono (Nat.le_trans hs1 hb16.size))
      have hbx26 := hbx16.below hw
      have ho26 := own_below ho16 hw
      have HNO_26 := own_far ho16
      have src26 := src16.below hw
      obtain ⟨B26, hB26⟩ : ∃ b, V16.heap.size = b := ⟨_, rfl⟩
      rw [hB26] at row26 HNO_26 ⊢
      obtain ⟨V26, hV26⟩ : ∃ b, V16.alloc (.cells #[.int .u8 x] 5) = b := ⟨_, rfl⟩
      rw [hV26] at row26 hb26 hbx26 ho26 src26 ⊢
      have c0 : V26.cell? ⟨w.heap.size, 0, none⟩ = some (.slice A7 K0 c7) := hbx26.cell 0
      have f0 := hbx26.free 0
      clear hw hV26 hB26
      refine hK _ _ ?_
      clear hK K
      try simp only [Act.put, List.setIfInBounds_toArray, List.set_cons_zero, List.set_cons_succ]
      refine wpAny_ready (rs := [0]) (by kernel_rfl) (by simp) ?_
      refine AllReady.cons rfl (fun K hK => ?_) ?_
      · go_simp
        refine hK _ _ ?_
        clear hK K
        try simp only [Act.put, List.setIfInBounds_toArray, List.set_cons_zero, List.set_cons_succ]
        refine wpAny_ready (rs := [3]) (by kernel_rfl) (by simp) ?_
        refine AllReady.cons rfl (fun K hK => ?_) ?_
        · refine step_app (w0 := W1) rfl (.tmp 10) (.tmp 12) 22 5 (.int .u8 0) 1 1 rfl Tryd.underlying22 infoU8 rfl (by decide) (by decide) (w.heap.size + 4) _ K0 (nums .u8 out) rfl ho26 A3_16 NG c3_16 (nums .u8 G) rfl src26 (nums_one _ _) (by omega) (Nat.le_trans hs1 hb26.size) hb26 ?_
          intro v28 V28 ho28 hb28 hg28
          have hbx28 := hbx26.keepOwn hg28 ho26 (by omega)
          have row28 := rd_keepOwn row26 hg28 HNO_26
          have c0 : V28.cell? ⟨w.heap.size, 0, none⟩ = some (.slice A7 K0 c7) := hbx28.cell 0
          have f0 := hbx28.free 0
          refine hK _ _ ?_
          clear hK K
          try simp only [Act.put, List.setIfInBounds_toArray, List.set_cons_zero, List.set_cons_succ]
          refine wpAny_ready (rs := [6]) (by kernel_rfl) (by simp) ?_
          refine AllReady.cons rfl (fun K hK => ?_) ?_
          · refine step_app (w0 := W1) rfl (.tmp 13) (.tmp 15) 22 5 (.int .u8 0) 1 1 rfl Tryd.underlying22 infoU8 rfl (by decide) (by decide) (w.heap.size + 4) _ (K0 + NG) (nums .u8 out ++ nums .u8 G) rfl ho28 _ 1 1 (nums .u8 [x]) rfl row28 (nums_one _ _) (by omega) (Nat.le_trans hs1 hb28.size) hb28 ?_
            intro v29 V29 ho29 hb29 hg29
            have hbx29 := hbx28.keepOwn hg29 ho28 (by omega)
            obtain ⟨A9, c9, rfl, _⟩ := Rd.own ho29
            have c0 : V29.cell? ⟨w.heap.size, 0, none⟩ = some (.slice A7 K0 c7) := hbx29.cell 0
            have f0 := hbx29.free 0
            refine hK _ _ ?_
            clear hK K
            try simp only [Act.put, List.setIfInBounds_toArray, List.set_cons_zero, List.set_cons_succ]
            refine wpAny_ready (rs := [7]) (by kernel_rfl) (by simp) ?_
            refine AllReady.cons rfl (fun K hK => ?_) ?_
            · go_simp
              refine hK _ _ ?_
              clear hK K
              try simp only [Act.put, List.setIfInBounds_toArray, List.set_cons_zero, List.set_cons_succ]
              refine wpAny_done (by kernel_rfl) ?_ _
              gi_wp2
              obtain ⟨b, w', e1, e2, e3⟩ := HFIN.out _ _ _ _ _ rfl hb29 hbx29 ho29
              exact ⟨b, w', e1, e2, _, e3⟩
            exact AllReady.nil
          exact AllReady.nil
        exact AllReady.nil
      exact AllReady.nil
    exact AllReady.nil
  refine AllReady.cons rfl (fun K hK => ?_) ?_
  · go_simp
    have row31 := rd_one17 V0 x
    have hw := below_lit V0 (.cells #[.int .u8 x] 5)
    have hb31 := hb0.trans (hw.mono (Nat.le_trans hs1 hb0.size))
    have hbx31 := hbx0.below hw
    have ho31 := own_below ho0 hw
    have HNO_31 := own_far ho0
    obtain ⟨B31, hB31⟩ : ∃ b, V0.heap.size = b := ⟨_, rfl⟩
    rw [hB31] at row31 HNO_31 ⊢
    obtain ⟨V31, hV31⟩ : ∃ b, V0.alloc (.cells #[.int .u8 x] 5) = b := ⟨_, rfl⟩
    rw [hV31] at row31 hb31 hbx31 ho31  ⊢
    have c0 : V31.cell? ⟨w.heap.size, 0, none⟩ = some (.slice A7 K0 c7) := hbx31.cell 0
    have f0 := hbx31.free 0
    clear hw hV31 hB31
    refine hK _ _ ?_
    clear hK K
    try simp only [Act.put, List.setIfInBounds_toArray, List.set_cons_zero, List.set_cons_succ]
    refine wpAny_ready (rs := [0, 2]) (by kernel_rfl) (by simp) ?_
    refine AllReady.cons rfl (fun K hK => ?_) ?_
    · go_simp
      refine hK _ _ ?_
      clear hK K
      try simp only [Act.put, List.setIfInBounds_toArray, List.set_cons_zero, List.set_cons_succ]
      refine wpAny_ready (rs := [2]) (by kernel_rfl) (by simp) ?_
      refine AllReady.cons rfl (fun K hK => ?_) ?_
      · go_simp
        go_at_call 14
        refine (Num_any (k : Int) _ (by omega) (by omega) G NG HGR.out HNG.out).mono ?_
        rintro e V33 ⟨z, rfl, hz, hw⟩
        obtain ⟨A3_33, c3_33, rfl, src33⟩ := Rd.own hz
        have hb33 := hb31.trans (hw.mono (Nat.le_trans hs1 hb31.size))
        have hbx33 := hbx31.below hw
        have ho33 := own_below ho31 hw
        have c0 : V33.cell? ⟨w.heap.size, 0, none⟩ = some (.slice A7 K0 c7) := hbx33.cell 0
        have f0 := hbx33.free 0
        have row33 := row31.below hw
        clear hz hw
        refine hK _ _ ?_
        clear hK K
        try simp only [Act.put, List.setIfInBounds_toArray, List.set_cons_zero, List.set_cons_succ]
        refine wpAny_ready (rs := [3]) (by kernel_rfl) (by simp) ?_
        refine AllReady.cons rfl (fun K hK => ?_) ?_
        · refine step_app (w0 := W1) rfl (.tmp 10) (.tmp 12) 22 5 (.int .u8 0) 1 1 rfl Tryd.underlying22 infoU8 rfl (by decide) (by decide) (w.heap.size + 4) _ K0 (nums .u8 out) rfl ho33 A3_33 NG c3_33 (nums .u8 G) rfl src33 (nums_one _ _) (by omega) (Nat.le_trans hs1 hb33.size) hb33 ?_
          intro v34 V34 ho34 hb34 hg34
          have hbx34 := hbx33.keepOwn hg34 ho33 (by omega)
          have row34 := rd_keepOwn row33 hg34 HNO_31
          have c0 : V34.cell? ⟨w.heap.size, 0, none⟩ = some (.slice A7 K0 c7) := hbx34.cell 0
          have f0 := hbx34.free 0
          refine hK _ _ ?_
          clear hK K
          try simp only [Act.put, List.setIfInBounds_toArray, List.set_cons_zero, List.set_cons_succ]
          refine wpAny_ready (rs := [6]) (by kernel_rfl) (by simp) ?_
          refine AllReady.cons rfl (fun K hK => ?_) ?_
          · refine step_app (w0 := W1) rfl (.tmp 13) (.tmp 15) 22 5 (.int .u8 0) 1 1 rfl Tryd.underlying22 infoU8 rfl (by decide) (by decide) (w.heap.size + 4) _ (K0 + NG) (nums .u8 out ++ nums .u8 G) rfl ho34 _ 1 1 (nums .u8 [x]) rfl row34 (nums_one _ _) (by omega) (Nat.le_trans hs1 hb34.size) hb34 ?_
            intro v35 V35 ho35 hb35 hg35
            have hbx35 := hbx34.keepOwn hg35 ho34 (by omega)
            obtain ⟨A9, c9, rfl, _⟩ := Rd.own ho35
            have c0 : V35.cell? ⟨w.heap.size, 0, none⟩ = some (.slice A7 K0 c7) := hbx35.cell 0
            have f0 := hbx35.free 0
            refine hK _ _ ?_
            clear hK K
            try simp only [Act.put, List.setIfInBounds_toArray, List.set_cons_zero, List.set_cons_succ]
            refine wpAny_ready (rs := [7]) (by kernel_rfl) (by simp) ?_
            refine AllReady.cons rfl (fun K hK => ?_) ?_
            · go_simp
              refine hK _ _ ?_
              clear hK K
              try simp only [Act.put, List.setIfInBounds_toArray, List.set_cons_zero, List.set_cons_succ]
              refine wpAny_done (by kernel_rfl) ?_ _
              gi_wp2
              obtain ⟨b, w', e1, e2, e3⟩ := HFIN.out _ _ _ _ _ rfl hb35 hbx35 ho35
              exact ⟨b, w', e1, e2, _, e3⟩
            exact AllReady.nil
          exact AllReady.nil
        exact AllReady.nil
      exact AllReady.nil
    refine AllReady.cons rfl (fun K hK => ?_) ?_
    · go_simp
      go_at_call 14
      refine (Num_any (k : Int) _ (by omega) (by omega) G NG HGR.out HNG.out).mono ?_
      rintro e V37 ⟨z, rfl, hz, hw⟩
      obtain ⟨A3_37, c3_37, rfl, src37⟩ := Rd.own hz
      have hb37 := hb31.trans (hw.mono (Nat.le_trans hs1 hb31.size))
      have hbx37 := hbx31.below hw
      have ho37 := own_below ho31 hw
      have c0 : V37.cell? ⟨w.heap.size, 0, none⟩ = some (.slice A7 K0 c7) := hbx37.cell 0
      have f0 := hbx37.free 0
      have row37 := row31.below hw
      clear hz hw
      refine hK _ _ ?_
      clear hK K
      try simp only [Act.put, List.setIfInBounds_toArray, List.set_cons_zero, List.set_cons_succ]
      refine wpAny_ready (rs := [0]) (by kernel_rfl) (by simp) ?_
      refine AllReady.cons rfl (fun K hK => ?_) ?_
      · go_simp
        refine hK _ _ ?_
        clear hK K
        try simp only [Act.put, List.setIfInBounds_toArray, List.set_cons_zero, List.set_cons_succ]
        refine wpAny_ready (rs := [3]) (by kernel_rfl) (by simp) ?_
        refine AllReady.cons rfl (fun K hK => ?_) ?_
        · refine step_app (w0 := W1) rfl (.tmp 10) (.tmp 12) 22 5 (.int .u8 0) 1 1 rfl Tryd.underlying22 infoU8 rfl (by decide) (by decide) (w.heap.size + 4) _ K0 (nums .u8 out) rfl ho37 A3_37 NG c3_37 (nums .u8 G) rfl src37 (nums_one _ _) (by omega) (Nat.le_trans hs1 hb37.size) hb37 ?_
          intro v39 V39 ho39 hb39 hg39
          have hbx39 := hbx37.keepOwn hg39 ho37 (by omega)
          have row39 := rd_keepOwn row37 hg39 HNO_31
          have c0 : V39.cell? ⟨w.heap.size, 0, none⟩ = some (.slice A7 K0 c7) := hbx39.cell 0
          have f0 := hbx39.free 0
          refine hK _ _ ?_
          clear hK K
          try simp only [Act.put, List.setIfInBounds_toArray, List.set_cons_zero, List.set_cons_succ]
          refine wpAny_ready (rs := [6]) (by kernel_rfl) (by simp) ?_
          refine AllReady.cons rfl (fun K hK => ?_) ?_
          · refine step_app (w0 := W1) rfl (.tmp 13) (.tmp 15) 22 5 (.int .u8 0) 1 1 rfl Tryd.underlying22 infoU8 rfl (by decide) (by decide) (w.heap.size + 4) _ (K0 + NG) (nums .u8 out ++ nums .u8 G) rfl ho39 _ 1 1 (nums .u8 [x]) rfl row39 (nums_one _ _) (by omega) (Nat.le_trans hs1 hb39.size) hb39 ?_
            intro v40 V40 ho40 hb40 hg40
            have hbx40 := hbx39.keepOwn hg40 ho39 (by omega)
            obtain ⟨A9, c9, rfl, _⟩ := Rd.own ho40
            have c0 : V40.cell? ⟨w.heap.size, 0, none⟩ = some (.slice A7 K0 c7) := hbx40.cell 0
            have f0 := hbx40.free 0
            refine hK _ _ ?_
            clear hK K
            try simp only [Act.put, List.setIfInBounds_toArray, List.set_cons_zero, List.set_cons_succ]
            refine wpAny_ready (rs := [7]) (by kernel_rfl) (by simp) ?_
            refine AllReady.cons rfl (fun K hK => ?_) ?_
            · go_simp
              refine hK _ _ ?_
              clear hK K
              try simp only [Act.put, List.setIfInBounds_toArray, List.set_cons_zero, List.set_cons_succ]
              refine wpAny_done (by kernel_rfl) ?_ _
              gi_wp2
              obtain ⟨b, w', e1, e2, e3⟩ := HFIN.out _ _ _ _ _ rfl hb40 hbx40 ho40
              exact ⟨b, w', e1, e2, _, e3⟩
            exact AllReady.nil
          exact AllReady.nil
        exact AllReady.nil
      exact AllReady.nil
    exact AllReady.nil
  exact AllReady.nil
end Go.Proofs.YticebanhccgglaaDoor
