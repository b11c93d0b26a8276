
/- asm.Fetch, and its closure. -/
import Derived.Test.YtiliddklaklekaaDoorRAsm10
import Derived.Test.YtiliddklaklekaaDoorOps08
import Derived.Test.YtiliddklaklekaaDoorRef08
import Derived.StillTailTactics
import Derived.Deep.QuietTactic
import Derived.BigQuiet
namespace Go.Proofs.YtiliddklaklekaaDoor
open Go.RowKit

/-- What stands at an address: op, with, next, thrown. -/
def fetR (l : List Int) (i : Int) : Int × Int × Int × Int :=
  if cellE l.length i = 0 then
    if wideR (cellR l i) = true then
      if cellE l.length (i + 8) = 0 then
        if cellR l i = 10 then
          if cellR l (i + 8) < 0 ∨ (l.length : Int) < cellR l (i + 8) ∨ (l.length : Int) - (i + 8 + 8) < upR (cellR l (i + 8)) then (0, 0, 0, -9)
          else (cellR l i, cellR l (i + 8), i + 8 + 8 + upR (cellR l (i + 8)), 0)
        else (cellR l i, cellR l (i + 8), i + 8 + 8, 0)
      else (0, 0, 0, cellE l.length (i + 8))
    else (cellR l i, 0, i + 8, 0)
  else (0, 0, 0, cellE l.length i)

theorem Fetch1_any (B1 B2 : Nat) (A : Option Addr) (c n : Nat) (l : List Int) (i r t : Int) (w : World) (hn : l.length = n) (hr : cellR l i = r) (ht : cellE n i = t) (hx : RdI w .u8 A c l) (hb : isB l) (h1 : w.cell? ⟨B1, 0, none⟩ = some (.slice A n c)) (h2 : Bx w B2 3 [.int .i64 0]) :
    Calls Tryd.prog 31 #[.int .i64 i, .pointer (some ⟨B1, 0, none⟩), .pointer (some ⟨B2, 0, none⟩)] w fun e w' => e = .returned (.int .i64 r) ∧ w' = w.setCell ⟨B2, 0, none⟩ (.int .i64 t) := by
  subst hn hr ht
  have HX := Lib.hid hx
  have h3 : w.cell? ⟨B2, 0, none⟩ = some (.int .i64 0) := h2.cell 0
  have h4 := h2.free 0
  clear hx h2
  go_enter Tryd.func31, Tryd.ntmps31
  go_wp2_with fail
  refine (Cell_any A c i l w HX.out hb).mono ?_
  rintro e w' ⟨rfl, rfl⟩
  clear HX
  go_wp2
  go_ret
  exact ⟨rfl, rfl⟩
theorem fet_no {l : List Int} {i : Int} (h : cellE l.length i ≠ 0) : fetR l i = (0, 0, 0, cellE l.length i) := by rw [fetR, if_neg h]
theorem fet_one {l : List Int} {i : Int} (h : cellE l.length i = 0) (hw : wideR (cellR l i) = false) : fetR l i = (cellR l i, 0, i + 8, 0) := by rw [fetR, if_pos h, if_neg (by rw [hw]; decide)]
theorem fet_two {l : List Int} {i : Int} (h : cellE l.length i = 0) (hw : wideR (cellR l i) = true) (h2 : cellE l.length (i + 8) ≠ 0) : fetR l i = (0, 0, 0, cellE l.length (i + 8)) := by rw [fetR, if_pos h, if_pos hw, if_neg h2]
theorem fet_cell {l : List Int} {i : Int} (h : cellE l.length i = 0) (hw : wideR (cellR l i) = true) (h2 : cellE l.length (i + 8) = 0) (h3 : cellR l i ≠ 10) : fetR l i = (cellR l i, cellR l (i + 8), i + 8 + 8, 0) := by rw [fetR, if_pos h, if_pos hw, if_pos h2, if_neg h3]
theorem fet_bad {l : List Int} {i : Int} (h : cellE l.length i = 0) (hw : wideR (cellR l i) = true) (h2 : cellE l.length (i + 8) = 0) (h3 : cellR l i = 10) (h4 : cellR l (i + 8) < 0 ∨ (l.length : Int) < cellR l (i + 8) ∨ (l.length : Int) - (i + 8 + 8) < upR (cellR l (i + 8))) : fetR l i = (0, 0, 0, -9) := by rw [fetR, if_pos h, if_pos hw, if_pos h2, if_pos h3, if_pos h4]
theorem fet_text {l : List Int} {i : Int} (h : cellE l.length i = 0) (hw : wideR (cellR l i) = true) (h2 : cellE l.length (i + 8) = 0) (h3 : cellR l i = 10) (h4 : ¬ (cellR l (i + 8) < 0 ∨ (l.length : Int) < cellR l (i + 8) ∨ (l.length : Int) - (i + 8 + 8) < upR (cellR l (i + 8)))) : fetR l i = (cellR l i, cellR l (i + 8), i + 8 + 8 + upR (cellR l (i + 8)), 0) := by rw [fetR, if_pos h, if_pos hw, if_pos h2, if_pos h3, if_neg h4]
def fetV (f : Int × Int × Int × Int) : Value := .tuple #[.int .i64 f.1, .int .i64 f.2.1, .int .i64 f.2.2.1, .int .i64 f.2.2.2]

theorem results_tmp4 {fn : Func} {t u v x : Tmp} (h : fn.results = #[.tmp t, .tmp u, .tmp v, .tmp x]) (tmps : Array Value) (P : Program) (w : World) :
    (results fn tmps).run P w = .ok (.tuple #[tmps.getD t undef, tmps.getD u undef, tmps.getD v undef, tmps.getD x undef]) w := by
  simp [results, h]

set_option maxHeartbeats 2000000 in
theorem Fetch_any (A : Option Addr) (c n : Nat) (l : List Int) (i : Int) (f : Int × Int × Int × Int) (w : World) (hn : l.length = n) (hf : fetR l i = f) (hx : RdI w .u8 A c l) (hb : isB l) (hl : n ≤ 140737488355328) (ht : Tab w) :
    Calls Tryd.prog 17 #[.slice A n c, .int .i64 i] w fun e w' => e = .returned (fetV f) ∧ Below w.heap.size w w' := by
  have hmf : ∀ (fn : Fn) (first cap : Array Value) (w : World), (Instr.makeFunc fn first cap).run Tryd.prog w = .ok (.func fn first cap) w := fun _ _ _ _ => rfl
  subst hn
  have HF := Lib.hid hf
  have HB0 := Lib.hid (below_two (below_lit w (.cells #[.slice A l.length c] 22)) (below_lit _ (.cells #[.int .i64 0] 3)))
  have HBI := Lib.hid hb
  have HT0 := Lib.hid ht
  have HX0 := Lib.hid hx
  clear hf hb
  have HX := Lib.hid (hx.below HB0.out)
  have HT := Lib.hid (ht.below HB0.out)
  clear hx ht
  go_enter Tryd.func17, Tryd.ntmps17
  go_wp2_with fail
  have HA1 : Hid (Bx _ w.heap.size 22 [.slice A l.length c]) := Lib.hid ((Bx.new w 22 [.slice A l.length c] #[.slice A l.length c] _ rfl rfl).alloc (.cells #[.int .i64 0] 3))
  have HA2 : Hid (Bx ((w.alloc (.cells #[.slice A l.length c] 22)).alloc (.cells #[.int .i64 0] 3)) (w.heap.size + 1) 3 [.int .i64 0]) := Lib.hid (Bx.new _ _ _ _ _ (by simp) rfl)
  obtain ⟨x, hx⟩ : ∃ x, cellR l i = x := ⟨_, rfl⟩
  obtain ⟨t, ht⟩ : ∃ t, cellE l.length i = t := ⟨_, rfl⟩
  refine (Fetch1_any w.heap.size (w.heap.size + 1) A c _ l i x t _ rfl hx ht HX.out HBI.out (HA1.out.cell 0) HA2.out).mono ?_
  rintro e w2 ⟨rfl, hw2⟩
  have HB2 : Hid (Below w.heap.size w w2) := Lib.hid (by rw [hw2]; exact HB0.out.setCell (Nat.le_succ _) _)
  have HC1 : Hid (Bx w2 w.heap.size 22 [.slice A l.length c]) := Lib.hid (by rw [hw2]; exact HA1.out.grown (grown_setCell _ _ _ _) (by omega))
  have HC2 : Hid (Bx w2 (w.heap.size + 1) 3 [.int .i64 t]) := Lib.hid (by rw [hw2]; exact HA2.out.setc 0 _)
  have HHX := Lib.hid hx
  have HHT := Lib.hid ht
  clear hx ht hw2 HA1 HA2 HX HT hmf
  have c1 : w2.cell? ⟨w.heap.size + 1, 0, none⟩ = some (.int .i64 t) := HC2.out.cell 0
  by_cases h0 : t = 0
  · subst h0
    have hce := cellE_zero HHT.out
    obtain ⟨b, hb⟩ : ∃ b, wideR x = b := ⟨_, rfl⟩
    have HHB := Lib.hid hb
    clear hb
    go_wp2_with fail
    refine (Wide_any x b w2 HHB.out (HT0.out.below HB2.out)).mono ?_
    rintro e w3 ⟨rfl, hb3⟩
    have HB3 := Lib.hid (below_two HB2.out hb3)
    have HD1 := Lib.hid (HC1.out.below hb3)
    have HD2 := Lib.hid (HC2.out.below hb3)
    clear hb3 c1 HB2 HC1 HC2
    have c1 : w3.cell? ⟨w.heap.size + 1, 0, none⟩ = some (.int .i64 0) := HD2.out.cell 0
    cases b with
    | false =>
      go_wp2
      ((try simp only [Exit.inBlock, Exit.then]); refine bodyPost_ret (results_tmp4 rfl _ _ _) rfl ?_)
      rw [← HF.out, fet_one HHT.out (by rw [HHX.out]; exact HHB.out), HHX.out]
      exact ⟨rfl, HB3.out⟩
    | true =>
      go_wp2_with fail
      have hx3 := HX0.out.below HB3.out
      obtain ⟨y, hy⟩ : ∃ y, cellR l (i + 8) = y := ⟨_, rfl⟩
      obtain ⟨t, ht⟩ : ∃ t, cellE l.length (i + 8) = t := ⟨_, rfl⟩
      refine (Fetch1_any w.heap.size (w.heap.size + 1) A c _ l (i + 8) y t _ rfl hy ht hx3 HBI.out (HD1.out.cell 0) HD2.out).mono ?_
      rintro e w4 ⟨rfl, hw4⟩
      have HB4 : Hid (Below w.heap.size w w4) := Lib.hid (by rw [hw4]; exact HB3.out.setCell (Nat.le_succ _) _)
      have HE1 : Hid (Bx w4 w.heap.size 22 [.slice A l.length c]) := Lib.hid (by rw [hw4]; exact HD1.out.grown (grown_setCell _ _ _ _) (by omega))
      have HE2 : Hid (Bx w4 (w.heap.size + 1) 3 [.int .i64 t]) := Lib.hid (by rw [hw4]; exact HD2.out.setc 0 _)
      have HHY := Lib.hid hy
      have HHU := Lib.hid ht
      clear hx3 hy ht hw4 c1 HD1 HD2 HB3
      have c1 : w4.cell? ⟨w.heap.size + 1, 0, none⟩ = some (.int .i64 t) := HE2.out.cell 0
      have c2 : w4.cell? ⟨w.heap.size, 0, none⟩ = some (.slice A l.length c) := HE1.out.cell 0
      have hwid : wideR (cellR l i) = true := by rw [HHX.out]; exact HHB.out
      have HWI := Lib.hid hwid
      clear hwid
      by_cases h0 : t = 0
      · subst h0
        have hce2 := cellE_zero HHU.out
        by_cases h10 : x = 10
        · subst h10
          by_cases hy0 : y < 0
          · go_wp2_with fail
            go_quiet (fail)
            obtain ⟨w5, hw5⟩ : ∃ w5, w4.drewN nq = w5 := ⟨_, rfl⟩
            have HB5 : Hid (Below w.heap.size w w5) := Lib.hid (by rw [← hw5]; exact below_two HB4.out (below_drewN _ _))
            have HF2 : Hid (Bx w5 (w.heap.size + 1) 3 [.int .i64 0]) := Lib.hid (by rw [← hw5]; exact HE2.out)
            rw [hw5]
            clear hw5 c1 c2 HB4 HE1 HE2
            have c1 : w5.cell? ⟨w.heap.size + 1, 0, none⟩ = some (.int .i64 0) := HF2.out.cell 0
            have c3 := HF2.out.free 0
            go_wp2_with fail
            go_quiet (fail)
            go_wp2
            ((try simp only [Exit.inBlock, Exit.then]); refine bodyPost_ret (results_tmp4 rfl _ _ _) rfl ?_)
            rw [← HF.out, fet_bad HHT.out HWI.out HHU.out HHX.out (by rw [HHY.out]; exact .inl hy0)]
            exact ⟨rfl, below_two (HB5.out.setCell (Nat.le_succ _) _) (below_drewN _ _)⟩
          · by_cases hyn : (l.length : Int) < y
            · go_wp2_with fail
              go_quiet (fail)
              obtain ⟨w5, hw5⟩ : ∃ w5, w4.drewN nq = w5 := ⟨_, rfl⟩
              have HB5 : Hid (Below w.heap.size w w5) := Lib.hid (by rw [← hw5]; exact below_two HB4.out (below_drewN _ _))
              have HF2 : Hid (Bx w5 (w.heap.size + 1) 3 [.int .i64 0]) := Lib.hid (by rw [← hw5]; exact HE2.out)
              rw [hw5]
              clear hw5 c1 c2 HB4 HE1 HE2
              have c1 : w5.cell? ⟨w.heap.size + 1, 0, none⟩ = some (.int .i64 0) := HF2.out.cell 0
              have c3 := HF2.out.free 0
              go_wp2_with fail
              go_quiet (fail)
              go_wp2
              ((try simp only [Exit.inBlock, Exit.then]); refine bodyPost_ret (results_tmp4 rfl _ _ _) rfl ?_)
              rw [← HF.out, fet_bad HHT.out HWI.out HHU.out HHX.out (by rw [HHY.out]; exact .inr (.inl hyn))]
              exact ⟨rfl, below_two (HB5.out.setCell (Nat.le_succ _) _) (below_drewN _ _)⟩
            · obtain ⟨u, hu⟩ : ∃ u, upR y = u := ⟨_, rfl⟩
              have HU := Lib.hid hu
              have hu2 : upR y = (y + 7) / 8 * 8 := by unfold upR wrap64; omega
              rw [hu] at hu2
              obtain ⟨d, hd⟩ : ∃ d, IntKind.i64.wrap ((l.length : Int) - (i + 8 + 8)) = d := ⟨_, rfl⟩
              have hd2 : (l.length : Int) - (i + 8 + 8) = d := by rw [← hd, IntKind.wrap_i64]; omega
              have HD2 := Lib.hid hd2
              have hu0 : 0 ≤ u := by omega
              have hu1 : u ≤ (l.length : Int) + 8 := by omega
              clear hu hu2 hd2
              by_cases hun : d < u
              · go_wp2_with fail
                go_quiet ((refine (Up_any y u _ HU.out).mono ?_; rintro e w1 ⟨rfl, rfl⟩; exact ⟨rfl, _, rfl⟩))
                obtain ⟨w5, hw5⟩ : ∃ w5, w4.drewN nq = w5 := ⟨_, rfl⟩
                have HB5 : Hid (Below w.heap.size w w5) := Lib.hid (by rw [← hw5]; exact below_two HB4.out (below_drewN _ _))
                have HF2 : Hid (Bx w5 (w.heap.size + 1) 3 [.int .i64 0]) := Lib.hid (by rw [← hw5]; exact HE2.out)
                rw [hw5]
                clear hw5 c1 c2 HB4 HE1 HE2
                have c1 : w5.cell? ⟨w.heap.size + 1, 0, none⟩ = some (.int .i64 0) := HF2.out.cell 0
                have c3 := HF2.out.free 0
                go_wp2_with fail
                go_quiet (fail)
                go_wp2
                ((try simp only [Exit.inBlock, Exit.then]); refine bodyPost_ret (results_tmp4 rfl _ _ _) rfl ?_)
                rw [← HF.out, fet_bad HHT.out HWI.out HHU.out HHX.out (by rw [HHY.out]; exact .inr (.inr (by rw [HU.out, HD2.out]; exact hun)))]
                exact ⟨rfl, below_two (HB5.out.setCell (Nat.le_succ _) _) (below_drewN _ _)⟩
              · go_wp2_with fail
                go_quiet ((refine (Up_any y u _ HU.out).mono ?_; rintro e w1 ⟨rfl, rfl⟩; exact ⟨rfl, _, rfl⟩))
                obtain ⟨w5, hw5⟩ : ∃ w5, w4.drewN nq = w5 := ⟨_, rfl⟩
                have HB5 : Hid (Below w.heap.size w w5) := Lib.hid (by rw [← hw5]; exact below_two HB4.out (below_drewN _ _))
                have HF2 : Hid (Bx w5 (w.heap.size + 1) 3 [.int .i64 0]) := Lib.hid (by rw [← hw5]; exact HE2.out)
                rw [hw5]
                clear hw5 c1 c2 HB4 HE1 HE2
                have c1 : w5.cell? ⟨w.heap.size + 1, 0, none⟩ = some (.int .i64 0) := HF2.out.cell 0
                have c3 := HF2.out.free 0
                go_wp2_with fail
                refine (Up_any y u _ HU.out).mono ?_
                rintro e w1 ⟨rfl, rfl⟩
                go_wp2
                ((try simp only [Exit.inBlock, Exit.then]); refine bodyPost_ret (results_tmp4 rfl _ _ _) rfl ?_)
                rw [← HF.out, fet_text HHT.out HWI.out HHU.out HHX.out (by rw [HHY.out, HU.out]; rw [HD2.out]; rintro (h | h | h) <;> omega), HHX.out, HHY.out, HU.out]
                exact ⟨rfl, HB5.out⟩
        · have b10 : (x != 10) = true := by simpa using h10
          go_wp2
          ((try simp only [Exit.inBlock, Exit.then]); refine bodyPost_ret (results_tmp4 rfl _ _ _) rfl ?_)
          rw [← HF.out, fet_cell HHT.out HWI.out HHU.out (by rw [HHX.out]; exact h10), HHX.out, HHY.out]
          exact ⟨rfl, HB4.out⟩
      · have e0 := fet_two HHT.out HWI.out (show cellE l.length (i + 8) ≠ 0 by rw [HHU.out]; exact h0)
        have b0 : (t != 0) = true := by simpa using h0
        go_wp2
        go_quiet (fail)
        go_wp2
        ((try simp only [Exit.inBlock, Exit.then]); refine bodyPost_ret (results_tmp4 rfl _ _ _) rfl ?_)
        rw [← HF.out, e0, HHU.out]
        exact ⟨rfl, below_two HB4.out (below_drewN _ _)⟩
  · have e0 := fet_no (show cellE l.length i ≠ 0 by rw [HHT.out]; exact h0)
    go_wp2
    go_quiet (fail)
    go_wp2
    ((try simp only [Exit.inBlock, Exit.then]); refine bodyPost_ret (results_tmp4 rfl _ _ _) rfl ?_)
    rw [← HF.out, e0, HHT.out]
    exact ⟨rfl, below_two HB2.out (below_drewN _ _)⟩
end Go.Proofs.YtiliddklaklekaaDoor
