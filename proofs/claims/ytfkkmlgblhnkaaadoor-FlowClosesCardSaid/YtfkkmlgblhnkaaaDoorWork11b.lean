
/- flow.work's methods. -/
import Derived.Test.YtfkkmlgblhnkaaaDoorWork11
import Derived.Test.YtfkkmlgblhnkaaaDoorMA
namespace Go.Proofs.YtfkkmlgblhnkaaaDoor
open Go.RowKit

theorem infoI : (Tryd.prog.info? 3).map (fun i => (i.zero, i.size, i.bytes)) = some (some (.int .i64 0), 1, 8) := by kernel_rfl
set_option maxRecDepth 100000 in
theorem sl_hmi (A : Option Addr) (n c j : Nat) (w : World) (h : j ≤ c) : (Instr.sliceAt 23 (.slice A n c) none (some (.int .i64 j)) (some (.int .i64 j))).run Tryd.prog w = .ok (.slice A j j) w := by
  have e2 : Tryd.prog.elem 23 = 3 := by kernel_rfl
  have ht : Tryd.prog.underlying 23 = some (.slice (Tryd.prog.elem 23)) := by rw [e2]; exact Tryd.underlying23
  rw [run_sliceAt_slice _ _ _ _ _ _ ht, run_slice_hm _ _ _ _ _ ht .i64 .i64 j j (by omega) (by omega) (by omega), e2, Tryd.sizeOf3 w]
  simp only [Result.andThen, sliced, Int.toNat_natCast, Nat.zero_mul, Nat.sub_zero]
  congr 2
  cases A <;> simp [Addr.add]
theorem RdP.withCtl {w : World} {q : Ad} {s : Ps} (h : RdP w q s) {A : Option Addr} {c : Nat} {m : List Int} (hr : RdI w .i64 A c m) : RdP w { q with c := A, cc := c } { s with ctl := m } :=
  ⟨h.mem, h.memB, h.data, h.ret, hr, h.words, h.spots, h.out, h.outB⟩
theorem Lies.withCtl {q : Ad} {s : Ps} {S : Nat → Prop} (h : Lies q s S) {A : Option Addr} {c : Nat} {m : List Int} (hr : 0 < m.length → ∀ ad, A = some ad → S ad.block) : Lies { q with c := A, cc := c } { s with ctl := m } S :=
  ⟨h.mem, h.data, h.ret, hr, h.words, h.spots, h.out⟩

theorem Clip_any (A : Option Addr) (n c : Nat) (w : World) (h : n ≤ c) :
    Calls Tryd.prog 68 #[.slice A n c] w fun r w' => r = .returned (.slice A n n) ∧ w = w' := by
  have hs := fun w => sl_hmi A n c n w h
  go_enter Tryd.func68, Tryd.ntmps68
  go_wp2
  go_ret
  exact ⟨rfl, rfl⟩

theorem wp_loadW {ops : Array Oper} {rest : List Oper} {o : Oper} {a : Act} {w : World} {Q : Exit → Act → World → Prop} (hgd : o.guard = none) (x : Operand) (ho : o.op = .load 28 x)
    (g : Nat) (hx : a.eval x = .pointer (some ⟨g, 0, none⟩)) (q : Ad) (s : Ps) (e : Int) (hw : Wk w g q s e)
    (h : wpList Tryd.prog ops Q rest (a.put o.dst (stV q s)) w) : wpList Tryd.prog ops Q (o :: rest) a w :=
  wpList_load_mid hgd 28 x ho g 0 hx (stL q s) _ hw.range Tryd.underlying28 rfl infoSt h
theorem Wk.z15 {w : World} {g : Nat} {q : Ad} {s : Ps} {e : Int} (h : Wk w g q s e) :
    w.cell? ⟨g, 0, none⟩ = some (.slice q.m s.mem.length q.mc) ∧ w.cell? ⟨g, 1, none⟩ = some (.slice q.d s.data.length q.dc) ∧ w.cell? ⟨g, 2, none⟩ = some (.slice q.r s.ret.length q.rc) ∧ w.cell? ⟨g, 3, none⟩ = some (.slice q.c s.ctl.length q.cc) ∧ w.cell? ⟨g, 4, none⟩ = some (.slice q.w s.words.length q.wc) ∧ w.cell? ⟨g, 5, none⟩ = some (.slice q.s s.spots.length q.sc) ∧ w.cell? ⟨g, 6, none⟩ = some (.slice q.o s.out.length q.oc) ∧ w.cell? ⟨g, 7, none⟩ = some (.int .i64 s.ip) ∧ w.cell? ⟨g, 8, none⟩ = some (.int .i64 s.here) ∧ w.cell? ⟨g, 9, none⟩ = some (.int .i64 s.pos) ∧ w.cell? ⟨g, 10, none⟩ = some (.int .i64 s.tok) ∧ w.cell? ⟨g, 11, none⟩ = some (.int .i64 s.inp) ∧ w.cell? ⟨g, 12, none⟩ = some (.int .i64 s.err) ∧ w.cell? ⟨g, 13, none⟩ = some (.bool s.comp) ∧ w.cell? ⟨g, 14, none⟩ = some (.bool s.halt) :=
  ⟨h.bx.cell 0, h.bx.cell 1, h.bx.cell 2, h.bx.cell 3, h.bx.cell 4, h.bx.cell 5, h.bx.cell 6, h.bx.cell 7, h.bx.cell 8, h.bx.cell 9, h.bx.cell 10, h.bx.cell 11, h.bx.cell 12, h.bx.cell 13, h.bx.cell 14⟩

/-! ### In plain words -/
def layW (x : Ps × Int) (op v : Int) : Ps × Int := if x.2 = 0 then (emitS x.1 [op, v], emitE x.1 [op, v]) else x
def settleW (x : Ps × Int) (at_ : Int) : Ps × Int := if x.2 = 0 then (patchS x.1 at_ x.1.here, patchE x.1 at_) else x
def pushW (x : Ps × Int) (kind at_ : Int) : Ps × Int := if x.2 = 0 then (if 128 < x.1.ctl.length + 2 then (zeroP, -3) else ({ x.1 with ctl := x.1.ctl ++ [kind, at_] }, 0)) else x
def roomW (x : Ps × Int) (pairs : Nat) : Ps × Int := if x.2 = 0 ∧ 128 < x.1.ctl.length + 2 * pairs then (zeroP, -3) else x
def popV (x : Ps × Int) (kind : Int) : Int := if x.2 = 0 ∧ 2 ≤ x.1.ctl.length ∧ x.1.ctl.getD (x.1.ctl.length - 2) 0 = kind then x.1.ctl.getD (x.1.ctl.length - 1) 0 else 0
def popW (x : Ps × Int) (kind : Int) : Ps × Int := if x.2 = 0 then (if 2 ≤ x.1.ctl.length ∧ x.1.ctl.getD (x.1.ctl.length - 2) 0 = kind then ({ x.1 with ctl := x.1.ctl.take (x.1.ctl.length - 2) }, 0) else (zeroP, -22)) else x
def freshW (x : Ps × Int) : Int := wrap64 (x.1.here - 8)

theorem rd_two (w : World) (x y : Int) : Rd (w.alloc (.cells #[.int .i64 x, .int .i64 y] 3)) (some ⟨w.heap.size, 0, none⟩) 2 2 1 (nums .i64 [x, y]) := rd_alloc w (nums .i64 [x, y]) #[.int .i64 x, .int .i64 y] 3 (0, 0) 2 2 1 rfl rfl (by decide) (by decide)

theorem Fresh_any (g : Nat) (h : Int) (w : World) (hc : w.cell? ⟨g, 8, none⟩ = some (.int .i64 h)) :
    Calls Tryd.prog 52 #[.pointer (some ⟨g, 0, none⟩)] w fun r w' => r = .returned (.int .i64 (wrap64 (h - 8))) ∧ w = w' := by
  go_enter Tryd.func52, Tryd.ntmps52
  go_wp2
  go_ret
  exact ⟨rfl, rfl⟩

set_option maxRecDepth 100000 in
set_option maxHeartbeats 1000000 in
theorem Lay_any (g : Nat) (op v : Int) (q : Ad) (s : Ps) (e : Int) (s' : Ps) (e' : Int) (w : World) (hr : layW (s, e) op v = (s', e')) (h : Wk w g q s e) (hl : s.mem.length ≤ 140737488355328) (hsp : s.spots.length + 2 ≤ 1000000) :
    Calls Tryd.prog 39 #[.pointer (some ⟨g, 0, none⟩), .int .i64 op, .int .i64 v] w fun r w' => r = .returned (.tuple #[]) ∧ ∃ q', To g w q s w' q' s' e' := by
  have H := Lib.hid h
  by_cases h0 : e = 0
  · subst h0
    rw [layW, if_pos rfl] at hr
    injection hr with hr1 hr2
    simp only at hr1 hr2
    have HR1 := Lib.hid hr1
    have HR2 := Lib.hid hr2
    have HB := Lib.hid (below_lit w (.cells #[.int .i64 op, .int .i64 v] 3))
    have HX := Lib.hid (rd_two w op v)
    have hg := h.lt
    clear h hr1 hr2
    go_enter Tryd.func39, Tryd.ntmps39
    go_wp2_with fail
    refine (Ok_any g 0 true _ rfl H.out.er).mono ?_
    rintro r w1 ⟨rfl, rfl⟩
    go_wp2_with (refine wp_loadW rfl _ rfl g rfl q s 0 H.out ?_)
    refine (Emit_any q s _ 2 2 [op, v] s' e' _ rfl HR1.out HR2.out (H.out.rd.below HB.out) HX.out hl hsp).mono ?_
    rintro r w2 ⟨q2, rfl, hr, hb⟩
    have HS := Lib.hid hr
    have HB2 := Lib.hid (below_two HB.out hb)
    clear hr hb
    go_wp2_with fail
    refine (Keep_yes g q s q2 s' e' w2 (H.out.below HB2.out) HS.out.rd ((HS.out.lies _ H.out.ls).mono (fun b hb => hb.elim id (fun hb => by simp at hb; omega)))).mono ?_
    rintro r w3 ⟨rfl, hw, hgr⟩
    have HW := Lib.hid hw
    have HG := Lib.hid hgr
    clear hw hgr
    go_wp2
    first | go_end0 | go_ret
    exact ⟨rfl, q2, HW.out, fun S hS => (HS.out.lies S hS).mono (fun b hb => hb.imp id (fun hb => by simp at hb; omega)), (grown_of_below HB2.out).trans HG.out⟩
  · rw [layW, if_neg h0] at hr
    injection hr with hr1 hr2
    subst hr1 hr2
    clear h
    go_enter Tryd.func39, Tryd.ntmps39
    go_wp2_with fail
    refine (Ok_any g e false _ (by simpa using h0) H.out.er).mono ?_
    rintro r w1 ⟨rfl, rfl⟩
    go_wp2
    first | go_end0 | go_ret
    exact ⟨rfl, q, To.same H.out⟩

set_option maxRecDepth 100000 in
set_option maxHeartbeats 1000000 in
theorem Settle_any (g : Nat) (at_ : Int) (q : Ad) (s : Ps) (e : Int) (s' : Ps) (e' : Int) (w : World) (hr : settleW (s, e) at_ = (s', e')) (h : Wk w g q s e) (hl : s.mem.length ≤ 140737488355328) :
    Calls Tryd.prog 43 #[.pointer (some ⟨g, 0, none⟩), .int .i64 at_] w fun r w' => r = .returned (.tuple #[]) ∧ ∃ q', To g w q s w' q' s' e' := by
  have H := Lib.hid h
  by_cases h0 : e = 0
  · subst h0
    rw [settleW, if_pos rfl] at hr
    injection hr with hr1 hr2
    simp only at hr1 hr2
    have HR1 := Lib.hid hr1
    have HR2 := Lib.hid hr2
    obtain ⟨z0, z1, z2, z3, z4, z5, z6, z7, z8, z9, z10, z11, z12, z13, z14⟩ := h.z15
    have hg := h.lt
    clear h hr1 hr2
    go_enter Tryd.func43, Tryd.ntmps43
    go_wp2_with fail
    refine (Ok_any g 0 true _ rfl H.out.er).mono ?_
    rintro r w1 ⟨rfl, rfl⟩
    go_wp2_with fail
    go_region_law (first
      | (go_simp; go_at_call 67; refine (Patch_any q s at_ s.here s' e' w.drew HR1.out HR2.out (H.out.rd.below (Below.refl _ _).drew) hl).mono ?_; rintro r w2 ⟨q2, rfl, hr, hb⟩; have hb2 : Below w.heap.size w w2 := (Below.refl _ _).drew.trans hb)
      | (go_simp; go_at_call 57; refine (Keep_yes g q s q2 s' e' w2 (H.out.below hb2) hr.rd ((hr.lies _ H.out.ls).mono (fun b hb => hb.elim id (fun hb => by simp at hb; omega)))).mono ?_; rintro r w3 ⟨rfl, hw, hgr⟩))
    all_goals
      have HO := Lib.hid (show To g w q s w3 q2 s' e' from ⟨hw, fun S hS => (hr.lies S hS).mono (fun b hb => hb.imp id (fun hb => by simp at hb; omega)), (grown_of_below hb2).trans hgr⟩)
      clear hw hgr hr hb hb2 z0 z1 z2 z3 z4 z5 z6 z7 z8 z9 z10 z11 z12 z13 z14
      go_wp2
      first | go_end0 | go_ret
      exact ⟨rfl, q2, HO.out⟩
  · rw [settleW, if_neg h0] at hr
    injection hr with hr1 hr2
    subst hr1 hr2
    clear h
    go_enter Tryd.func43, Tryd.ntmps43
    go_wp2_with fail
    refine (Ok_any g e false _ (by simpa using h0) H.out.er).mono ?_
    rintro r w1 ⟨rfl, rfl⟩
    go_wp2
    first | go_end0 | go_ret
    exact ⟨rfl, q, To.same H.out⟩

theorem zero_keep {g : Nat} {w w' : World} {q : Ad} {s : Ps} {e : Int} (hw : Wk w' g nilA zeroP e) (hg : w.grownBy w' (some g)) : To g w q s w' nilA zeroP e := ⟨hw, fun _ _ => Lies.zero _, hg⟩

set_option maxRecDepth 100000 in
set_option maxHeartbeats 1000000 in
theorem Push_any (g : Nat) (kind at_ : Int) (q : Ad) (s : Ps) (e : Int) (s' : Ps) (e' : Int) (w : World) (hr : pushW (s, e) kind at_ = (s', e')) (h : Wk w g q s e) (hl : s.ctl.length ≤ 1000000) :
    Calls Tryd.prog 47 #[.pointer (some ⟨g, 0, none⟩), .int .i64 kind, .int .i64 at_] w fun r w' => r = .returned (.tuple #[]) ∧ ∃ q', To g w q s w' q' s' e' := by
  have H := Lib.hid h
  obtain ⟨n, hn⟩ : ∃ n, s.ctl.length = n := ⟨_, rfl⟩
  have c3 := h.ctl
  have hcap := h.rd.ctl.cap
  have hle := h.rd.ctl.le
  have hg := h.lt
  rw [hn] at c3 hl hle
  have HN := Lib.hid hn
  unfold maxLen at hcap
  by_cases h0 : e = 0
  · subst h0
    rw [pushW, if_pos rfl] at hr
    simp only at hr
    rw [hn] at hr
    by_cases hov : 128 < n + 2
    · rw [if_pos hov] at hr
      injection hr with hr1 hr2
      subst hr1 hr2
      have hd : (128 : Int) < (n : Int) + 2 := by omega
      clear h hn
      go_enter Tryd.func47, Tryd.ntmps47
      go_wp2_with fail
      refine (Ok_any g 0 true _ rfl H.out.er).mono ?_
      rintro r w1 ⟨rfl, rfl⟩
      go_wp2_with fail
      refine (Keep_yes g q s nilA zeroP (-3) w H.out (RdP.zero w) (Lies.zero _)).mono ?_
      rintro r w2 ⟨rfl, hw, hgr⟩
      have HW := Lib.hid hw
      have HG := Lib.hid hgr
      clear hw hgr c3
      go_wp2_with fail
      refine (Ok_any g (-3) false _ rfl HW.out.er).mono ?_
      rintro r w1 ⟨rfl, rfl⟩
      go_wp2
      first | go_end0 | go_ret
      exact ⟨rfl, nilA, zero_keep HW.out HG.out⟩
    · rw [if_neg hov] at hr
      injection hr with hr1 hr2
      subst hr1 hr2
      have hd : ¬ (128 : Int) < (n : Int) + 2 := by omega
      have HX0 : Hid (Rd w q.c n n 1 (nums .i64 s.ctl)) := Lib.hid (by have := h.rd.ctl.clip; rw [hn] at this; exact this)
      have HB := Lib.hid (below_lit w (.cells #[.int .i64 kind, .int .i64 at_] 3))
      have HX1 := Lib.hid (HX0.out.below HB.out)
      have HR2 := Lib.hid (rd_two w kind at_)
      clear h hn
      go_enter Tryd.func47, Tryd.ntmps47
      go_wp2_with fail
      refine (Ok_any g 0 true _ rfl H.out.er).mono ?_
      rintro r w1 ⟨rfl, rfl⟩
      go_wp2_with fail
      refine (Ok_any g 0 true _ rfl H.out.er).mono ?_
      rintro r w1 ⟨rfl, rfl⟩
      go_wp2_with fail
      refine (Clip_any q.c n q.cc w hle).mono ?_
      rintro r w1 ⟨rfl, rfl⟩
      go_wp2_with (refine wp_appG rfl (.tmp 29) (.tmp 32) 23 3 (.int .i64 0) 1 8 rfl Tryd.underlying23 infoI rfl (by decide) (by decide) q.c n (nums .i64 s.ctl) rfl HX1.out _ 2 2 (nums .i64 [kind, at_]) rfl HR2.out (by decide) (nums_one _ _) (by omega) ?_)
      intro A2 c2 w2 ho hb
      have HO := Lib.hid ho
      have HB2 : Hid (Below w.heap.size w w2) := Lib.hid (HB.out.trans (hb.mono (by simp)))
      have HW := Lib.hid (H.out.below HB2.out)
      clear ho hb c3
      go_wp2_with (refine wp_storeF rfl 23 _ _ rfl g 3 _ rfl rfl rfl 53 _ HW.out.bx 16 rfl (by decide) info1c ?_)
      intro w3 hg3 hw3
      have HC : (s.ctl ++ [kind, at_]).length = n + 2 := by rw [List.length_append, HN.out]; rfl
      have HRd : RdI w2 .i64 A2 c2 (s.ctl ++ [kind, at_]) := by
        have := own_rd HO.out
        unfold RdI
        rw [HC]
        simpa [nums] using this
      have hlie : ∀ ad, A2 = some ad → w.heap.size ≤ ad.block := fun ad e => by
        have := own_block_ge HO.out (by omega) ad e
        have h2 := HB.out.size
        omega
      have HL : Lies { q with c := A2, cc := c2 } { s with ctl := s.ctl ++ [kind, at_] } (fun b => b ≠ g) := H.out.ls.withCtl (fun _ ad e => by have := hlie ad e; omega)
      have HW3 : Wk w3 g { q with c := A2, cc := c2 } { s with ctl := s.ctl ++ [kind, at_] } 0 := by
        refine ⟨?_, (HW.out.rd.withCtl HRd).grown HL hw3 (fun h => h rfl), HL⟩
        have e : wkL { q with c := A2, cc := c2 } { s with ctl := s.ctl ++ [kind, at_] } 0 = (wkL q s 0).set 3 (.slice A2 (n + 2) c2) := by
          show _ = (stL q s ++ [Value.int .i64 0]).set 3 _
          rw [← HC]
          rfl
        rw [e]
        exact hg3
      have HT := Lib.hid (show To g w q s w3 { q with c := A2, cc := c2 } { s with ctl := s.ctl ++ [kind, at_] } 0 from ⟨HW3, fun S hS => (hS.mono (fun _ h => Or.inl h)).withCtl (fun _ ad e => .inr (hlie ad e)), (grown_of_below HB2.out).trans hw3⟩)
      clear hg3 hw3 HRd hlie HL HW3
      go_wp2
      first | go_end0 | go_ret
      exact ⟨rfl, _, HT.out⟩
  · rw [pushW, if_neg h0] at hr
    injection hr with hr1 hr2
    subst hr1 hr2
    clear h hn
    go_enter Tryd.func47, Tryd.ntmps47
    go_wp2_with fail
    refine (Ok_any g e false _ (by simpa using h0) H.out.er).mono ?_
    rintro r w1 ⟨rfl, rfl⟩
    go_wp2_with fail
    refine (Ok_any g e false _ (by simpa using h0) H.out.er).mono ?_
    rintro r w1 ⟨rfl, rfl⟩
    go_wp2
    first | go_end0 | go_ret
    exact ⟨rfl, q, To.same H.out⟩
end Go.Proofs.YtfkkmlgblhnkaaaDoor
