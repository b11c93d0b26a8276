
/- nostosref10.Fetch. -/
import Derived.Test.YtiliddklaklekaaDoorFetch10
namespace Go.Proofs.YtiliddklaklekaaDoor
open Go.RowKit
theorem infoCode : (Tryd.prog.info? 41).map (·.size) = some 4 := by kernel_rfl
/-- One result, a struct in a block. -/
theorem results_S1 {P : Program} {fn : Func} {p : Tmp} {ty : TypeId} (h : fn.results = #[.cell p ty]) (tmps : Array Value) (w : World) (g : Nat) (t : TypeId) (cs : List Value) (d : TypeDesc)
    (hp : tmps.getD p undef = .pointer (some ⟨g, 0, none⟩)) (hg : Bx w g t cs)
    (hu : P.underlying ty = some d) (hd : (match d with | .struct _ | .array _ _ => true | _ => false) = true) (m : Nat) (hi : (P.info? ty).map (·.size) = some m) (hm : cs.length = m) :
    (results fn tmps).run P w = .ok (.agg cs.toArray) w := by
  rw [Array.getD_eq_getD_getElem?] at hp
  rw [results, h]
  simp [hp, asAddr, run_loadVar_row w g t ty cs.toArray (0, 0) d hg hu hd (by rw [hi, List.size_toArray, hm])]
def fetL (f : Int × Int × Int × Int) : List Value := [.int .i64 f.1, .int .i64 f.2.1, .int .i64 f.2.2.1, .int .i64 f.2.2.2]

set_option maxHeartbeats 2000000 in
theorem RFetch_any (A : Option Addr) (c n : Nat) (l : List Int) (i : Int) (f : Int × Int × Int × Int) (w : World) (hn : l.length = n) (hf : fetR l i = f) (hx : RdI w .u8 A c l) (hb : isB l) (hl : n ≤ 140737488355328) :
    Calls Tryd.prog 18 #[.slice A n c, .int .i64 i] w fun e w' => e = .returned (.agg (fetL f).toArray) ∧ Below w.heap.size w w' := by
  subst hn
  have HF := Lib.hid hf
  have HB0 := Lib.hid (below_lit w (.cells #[.int .i64 0, .int .i64 0, .int .i64 0, .int .i64 0] 41))
  have HBI := Lib.hid hb
  have HX := Lib.hid (hx.below HB0.out)
  have HA : Hid (Bx (w.alloc (.cells #[.int .i64 0, .int .i64 0, .int .i64 0, .int .i64 0] 41)) w.heap.size 41 [.int .i64 0, .int .i64 0, .int .i64 0, .int .i64 0]) := Lib.hid (Bx.new w _ _ _ _ rfl rfl)
  clear hf hb hx
  go_enter Tryd.func18, Tryd.ntmps18
  go_wp2_with fail
  refine (RefCell_any A c i l _ HX.out HBI.out).mono ?_
  rintro e w' ⟨rfl, rfl⟩
  obtain ⟨W, hW⟩ : ∃ W, w.alloc (.cells #[.int .i64 0, .int .i64 0, .int .i64 0, .int .i64 0] 41) = W := ⟨_, rfl⟩
  rw [hW] at HX HA HB0 ⊢
  clear hW
  obtain ⟨x, hx⟩ : ∃ x, cellR l i = x := ⟨_, rfl⟩
  obtain ⟨t, ht⟩ : ∃ t, cellE l.length i = t := ⟨_, rfl⟩
  rw [hx, ht]
  have HHX := Lib.hid hx
  have HHT := Lib.hid ht
  clear hx ht
  by_cases h0 : t = 0
  · subst h0
    have hce := cellE_zero HHT.out
    obtain ⟨b, hb⟩ : ∃ b, wideR x = b := ⟨_, rfl⟩
    have HHB := Lib.hid hb
    clear hb
    go_wp2_with fail
    refine (RWide_any x b W HHB.out).mono ?_
    rintro e w3 ⟨rfl, rfl⟩
    cases b with
    | false =>
      go_wp2_with (refine wp_storeS rfl 41 _ _ rfl w.heap.size (fetL (x, 0, i + 8, 0)) rfl rfl 41 _ HA.out 4 infoCode rfl rfl rfl ?_)
      intro w4 hr4 hw4
      go_wp2
      refine bodyPost_ret (v := .agg (fetL (x, 0, i + 8, 0)).toArray) (results_S1 Tryd.results18 _ _ _ 41 _ _ rfl hr4 Tryd.underlying41 rfl 4 infoCode rfl) rfl ?_
      rw [← HF.out, fet_one HHT.out (by rw [HHX.out]; exact HHB.out), HHX.out]
      exact ⟨rfl, below_grown HB0.out HB0.out.size hw4 (Nat.le_refl _)⟩
    | true =>
      have hwid : wideR (cellR l i) = true := by rw [HHX.out]; exact HHB.out
      have HWI := Lib.hid hwid
      clear hwid
      obtain ⟨y, hy⟩ : ∃ y, cellR l (i + 8) = y := ⟨_, rfl⟩
      obtain ⟨t, ht⟩ : ∃ t, cellE l.length (i + 8) = t := ⟨_, rfl⟩
      have HHY := Lib.hid hy
      have HHU := Lib.hid ht
      clear hy ht
      go_wp2_with fail
      refine (RefCell_any A c (i + 8) l _ HX.out HBI.out).mono ?_
      rintro e w' ⟨rfl, rfl⟩
      rw [HHY.out, HHU.out]
      by_cases h0 : t = 0
      · subst h0
        have hce2 := cellE_zero HHU.out
        have e16 : i + 8 + 8 = i + 16 := by omega
        have HE := Lib.hid e16
        clear e16
        by_cases h10 : x = 10
        · subst h10
          by_cases hy0 : y < 0
          · go_wp2_with (first
              | (refine wp_storeS rfl 41 _ _ rfl w.heap.size (fetL (0, 0, 0, -9)) rfl rfl 41 _ HA.out 4 infoCode rfl rfl rfl ?_)
              | fail)
            intro w4 hr4 hw4
            go_wp2
            refine bodyPost_ret (v := .agg (fetL (0, 0, 0, -9)).toArray) (results_S1 Tryd.results18 _ _ _ 41 _ _ rfl hr4 Tryd.underlying41 rfl 4 infoCode rfl) rfl ?_
            rw [← HF.out, fet_bad HHT.out HWI.out HHU.out HHX.out (by rw [HHY.out]; exact .inl hy0)]
            exact ⟨rfl, below_grown HB0.out HB0.out.size hw4 (Nat.le_refl _)⟩
          · by_cases hyn : (l.length : Int) < y
            · go_wp2_with (first
                | (refine wp_storeS rfl 41 _ _ rfl w.heap.size (fetL (0, 0, 0, -9)) rfl rfl 41 _ HA.out 4 infoCode rfl rfl rfl ?_)
                | fail)
              intro w4 hr4 hw4
              go_wp2
              refine bodyPost_ret (v := .agg (fetL (0, 0, 0, -9)).toArray) (results_S1 Tryd.results18 _ _ _ 41 _ _ rfl hr4 Tryd.underlying41 rfl 4 infoCode rfl) rfl ?_
              rw [← HF.out, fet_bad HHT.out HWI.out HHU.out HHX.out (by rw [HHY.out]; exact .inr (.inl hyn))]
              exact ⟨rfl, below_grown HB0.out HB0.out.size hw4 (Nat.le_refl _)⟩
            · obtain ⟨u, hu⟩ : ∃ u, upR y = u := ⟨_, rfl⟩
              have HU := Lib.hid hu
              have hu2 : upR y = (y + 7) / 8 * 8 := by unfold upR wrap64; omega
              rw [hu] at hu2
              obtain ⟨d, hd⟩ : ∃ d, IntKind.i64.wrap (IntKind.i64.wrap ((l.length : Int) - i) - 16) = d := ⟨_, rfl⟩
              have hd2 : (l.length : Int) - (i + 8 + 8) = d := by rw [← hd, IntKind.wrap_i64, IntKind.wrap_i64]; omega
              have hd3 : IntKind.i64.wrap ((l.length : Int) - i) = (l.length : Int) - i := by rw [IntKind.wrap_i64]; omega
              rw [hd3] at hd
              have HD2 := Lib.hid hd2
              have hu0 : 0 ≤ u := by omega
              have hu1 : u ≤ (l.length : Int) + 8 := by omega
              clear hu hu2 hd2
              by_cases hun : d < u
              · go_wp2_with (first
                  | (refine wp_storeS rfl 41 _ _ rfl w.heap.size (fetL (0, 0, 0, -9)) rfl rfl 41 _ HA.out 4 infoCode rfl rfl rfl ?_)
                  | (go_at_call 20; refine (RUp_any y u _ HU.out (by omega) (by omega)).mono ?_; rintro e w1 ⟨rfl, rfl⟩))
                intro w4 hr4 hw4
                go_wp2
                refine bodyPost_ret (v := .agg (fetL (0, 0, 0, -9)).toArray) (results_S1 Tryd.results18 _ _ _ 41 _ _ rfl hr4 Tryd.underlying41 rfl 4 infoCode rfl) rfl ?_
                rw [← HF.out, fet_bad HHT.out HWI.out HHU.out HHX.out (by rw [HHY.out]; exact .inr (.inr (by rw [HU.out, HD2.out]; exact hun)))]
                exact ⟨rfl, below_grown HB0.out HB0.out.size hw4 (Nat.le_refl _)⟩
              · go_wp2_with (first
                  | (refine wp_storeS rfl 41 _ _ rfl w.heap.size (fetL (10, y, i + 16 + u, 0)) rfl rfl 41 _ HA.out 4 infoCode rfl rfl rfl ?_)
                  | (go_at_call 20; refine (RUp_any y u _ HU.out (by omega) (by omega)).mono ?_; rintro e w1 ⟨rfl, rfl⟩))
                intro w4 hr4 hw4
                go_wp2
                refine bodyPost_ret (v := .agg (fetL (10, y, i + 16 + u, 0)).toArray) (results_S1 Tryd.results18 _ _ _ 41 _ _ rfl hr4 Tryd.underlying41 rfl 4 infoCode rfl) rfl ?_
                rw [← HF.out, fet_text HHT.out HWI.out HHU.out HHX.out (by rw [HHY.out, HU.out]; rw [HD2.out]; rintro (h | h | h) <;> omega), HHX.out, HHY.out, HU.out, HE.out]
                exact ⟨rfl, below_grown HB0.out HB0.out.size hw4 (Nat.le_refl _)⟩
        · have b10 : (x != 10) = true := by simpa using h10
          go_wp2_with (refine wp_storeS rfl 41 _ _ rfl w.heap.size (fetL (x, y, i + 16, 0)) rfl rfl 41 _ HA.out 4 infoCode rfl rfl rfl ?_)
          intro w4 hr4 hw4
          go_wp2
          refine bodyPost_ret (v := .agg (fetL (x, y, i + 16, 0)).toArray) (results_S1 Tryd.results18 _ _ _ 41 _ _ rfl hr4 Tryd.underlying41 rfl 4 infoCode rfl) rfl ?_
          rw [← HF.out, fet_cell HHT.out HWI.out HHU.out (by rw [HHX.out]; exact h10), HHX.out, HHY.out, HE.out]
          exact ⟨rfl, below_grown HB0.out HB0.out.size hw4 (Nat.le_refl _)⟩
      · have e0 := fet_two HHT.out HWI.out (show cellE l.length (i + 8) ≠ 0 by rw [HHU.out]; exact h0)
        have b0 : (t != 0) = true := by simpa using h0
        go_wp2_with (refine wp_storeS rfl 41 _ _ rfl w.heap.size (fetL (0, 0, 0, t)) rfl rfl 41 _ HA.out 4 infoCode rfl rfl rfl ?_)
        intro w4 hr4 hw4
        go_wp2
        refine bodyPost_ret (v := .agg (fetL (0, 0, 0, t)).toArray) (results_S1 Tryd.results18 _ _ _ 41 _ _ rfl hr4 Tryd.underlying41 rfl 4 infoCode rfl) rfl ?_
        rw [← HF.out, e0, HHU.out]
        exact ⟨rfl, below_grown HB0.out HB0.out.size hw4 (Nat.le_refl _)⟩
  · have e0 := fet_no (show cellE l.length i ≠ 0 by rw [HHT.out]; exact h0)
    have b0 : (t != 0) = true := by simpa using h0
    go_wp2_with (refine wp_storeS rfl 41 _ _ rfl w.heap.size (fetL (0, 0, 0, t)) rfl rfl 41 _ HA.out 4 infoCode rfl rfl rfl ?_)
    intro w4 hr4 hw4
    go_wp2
    refine bodyPost_ret (v := .agg (fetL (0, 0, 0, t)).toArray) (results_S1 Tryd.results18 _ _ _ 41 _ _ rfl hr4 Tryd.underlying41 rfl 4 infoCode rfl) rfl ?_
    rw [← HF.out, e0, HHT.out]
    exact ⟨rfl, below_grown HB0.out HB0.out.size hw4 (Nat.le_refl _)⟩
end Go.Proofs.YtiliddklaklekaaDoor
