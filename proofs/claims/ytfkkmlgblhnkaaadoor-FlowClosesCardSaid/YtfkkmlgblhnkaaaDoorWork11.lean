
/- flow.work: a state, and what is thrown, in a block of 16 cells; its first methods. -/
import Derived.Test.YtfkkmlgblhnkaaaDoorEmit10
import Derived.Test.YtfkkmlgblhnkaaaDoorMA
import Derived.Deep.MidRow
import Derived.StillTailTactics
import Derived.Deep.RegionLaw
import Derived.BigQuiet
namespace Go.Proofs.YtfkkmlgblhnkaaaDoor
open Go.RowKit

def wkL (q : Ad) (s : Ps) (e : Int) : List Value := stL q s ++ [.int .i64 e]
/-- Block g holds a state, and what is thrown; the state's lists lie elsewhere. -/
structure Wk (w : World) (g : Nat) (q : Ad) (s : Ps) (e : Int) : Prop where
  bx : Bx w g 53 (wkL q s e)
  rd : RdP w q s
  ls : Lies q s (fun b => b ≠ g)
theorem Wk.lt {w : World} {g : Nat} {q : Ad} {s : Ps} {e : Int} (h : Wk w g q s e) : g < w.heap.size := h.bx.lt
theorem Wk.range {w : World} {g : Nat} {q : Ad} {s : Ps} {e : Int} (h : Wk w g q s e) : w.rangeAt g 0 (stL q s) := fun j v hj => by
  have hj15 : j < 15 := by
    have := (List.getElem?_eq_some_iff.1 hj).1
    rwa [stL_len] at this
  rw [Nat.zero_add, h.bx.cell j, wkL, List.getElem?_append_left (by rw [stL_len]; exact hj15)]
  exact hj
theorem Wk.load {w : World} {g : Nat} {q : Ad} {s : Ps} {e : Int} (h : Wk w g q s e) : (Instr.loadAt 28 (.pointer (some ⟨g, 0, none⟩))).run Tryd.prog w = .ok (stV q s) w :=
  run_loadAt_mid w g 0 28 (stL q s) _ h.range Tryd.underlying28 rfl infoSt
theorem Wk.er {w : World} {g : Nat} {q : Ad} {s : Ps} {e : Int} (h : Wk w g q s e) : w.cell? ⟨g, 15, none⟩ = some (.int .i64 e) := h.bx.cell 15
theorem Wk.ctl {w : World} {g : Nat} {q : Ad} {s : Ps} {e : Int} (h : Wk w g q s e) : w.cell? ⟨g, 3, none⟩ = some (.slice q.c s.ctl.length q.cc) := h.bx.cell 3
theorem Wk.words {w : World} {g : Nat} {q : Ad} {s : Ps} {e : Int} (h : Wk w g q s e) : w.cell? ⟨g, 4, none⟩ = some (.slice q.w s.words.length q.wc) := h.bx.cell 4
theorem Wk.here {w : World} {g : Nat} {q : Ad} {s : Ps} {e : Int} (h : Wk w g q s e) : w.cell? ⟨g, 8, none⟩ = some (.int .i64 s.here) := h.bx.cell 8
theorem Wk.below {w w' : World} {g : Nat} {q : Ad} {s : Ps} {e : Int} (h : Wk w g q s e) (hb : Below w.heap.size w w') : Wk w' g q s e := ⟨h.bx.below hb, h.rd.below hb, h.ls⟩
/-- Another block of one's own is turned. -/
theorem Wk.grown {w w' : World} {g k : Nat} {q : Ad} {s : Ps} {e : Int} (h : Wk w g q s e) (hg : w.grownBy w' (some k)) (hk : g ≠ k) (hl : Lies q s (fun b => b ≠ k)) : Wk w' g q s e :=
  ⟨h.bx.grown hg hk, h.rd.grown hl hg (fun h => h rfl), h.ls⟩
theorem grown_of_below {w w' : World} {g : Nat} (hb : Below w.heap.size w w') : w.grownBy w' (some g) := ⟨hb.os, hb.tape, hb.output, hb.size, fun k hk _ => hb.block k hk⟩
/-- What a method leaves. -/
structure To (g : Nat) (w : World) (q : Ad) (s : Ps) (w' : World) (q' : Ad) (s' : Ps) (e' : Int) : Prop where
  wk : Wk w' g q' s' e'
  lies : ∀ S : Nat → Prop, Lies q s S → Lies q' s' (fun b => S b ∨ w.heap.size ≤ b)
  gr : w.grownBy w' (some g)
theorem To.same {g : Nat} {w : World} {q : Ad} {s : Ps} {e : Int} (h : Wk w g q s e) : To g w q s w q s e := ⟨h, fun _ hS => hS.mono (fun _ h => .inl h), World.grownBy.refl _ _⟩
theorem To.trans {g : Nat} {w w1 w2 : World} {q q1 q2 : Ad} {s s1 s2 : Ps} {e1 e2 : Int} (h : To g w q s w1 q1 s1 e1) (k : To g w1 q1 s1 w2 q2 s2 e2) : To g w q s w2 q2 s2 e2 :=
  ⟨k.wk, fun S hS => (k.lies _ (h.lies S hS)).mono (fun _ hb => hb.elim (fun h => h) (fun hb => .inr (Nat.le_trans h.gr.size hb))), h.gr.trans k.gr⟩
theorem To.of_below {g : Nat} {w w1 w2 : World} {q q2 : Ad} {s s2 : Ps} {e2 : Int} (hb : Below w.heap.size w w1) (k : To g w1 q s w2 q2 s2 e2) : To g w q s w2 q2 s2 e2 :=
  ⟨k.wk, fun S hS => (k.lies S hS).mono (fun _ hb2 => hb2.imp id (fun h => Nat.le_trans hb.size h)), (grown_of_below hb).trans k.gr⟩

theorem Ok_any (g : Nat) (e : Int) (b : Bool) (w : World) (hb : (e == 0) = b) (hc : w.cell? ⟨g, 15, none⟩ = some (.int .i64 e)) :
    Calls Tryd.prog 18 #[.pointer (some ⟨g, 0, none⟩)] w fun r w' => r = .returned (.bool b) ∧ w = w' := by
  subst hb
  go_enter Tryd.func18, Tryd.ntmps18
  go_wp2
  go_ret
  exact ⟨rfl, rfl⟩

/-- keep, where nothing was thrown yet. -/
theorem Keep_yes (g : Nat) (q : Ad) (s : Ps) (q2 : Ad) (s2 : Ps) (f : Int) (w : World) (h : Wk w g q s 0) (h2 : RdP w q2 s2) (hl : Lies q2 s2 (fun b => b ≠ g)) :
    Calls Tryd.prog 57 #[.pointer (some ⟨g, 0, none⟩), stV q2 s2, .int .i64 f] w fun r w' => r = .returned (.tuple #[]) ∧ Wk w' g q2 s2 f ∧ w.grownBy w' (some g) := by
  have H := Lib.hid h
  have H2 := Lib.hid h2
  have HL := Lib.hid hl
  have HB := Lib.hid (below_lit w (.cells (stL q2 s2).toArray 28))
  have HN : Hid (Bx (w.alloc (.cells (stL q2 s2).toArray 28)) w.heap.size 28 (stL q2 s2)) := Lib.hid (Bx.new w _ _ _ _ rfl rfl)
  have H1 := Lib.hid (h.below HB.out)
  have hg := h.lt
  clear h h2 hl
  rw [stV_eq q2 s2]
  go_enter Tryd.func57, Tryd.ntmps57
  go_wp2_with fail
  refine (Ok_any g 0 true _ rfl H1.out.er).mono ?_
  rintro e w1 ⟨rfl, hw1⟩
  obtain ⟨W, hW⟩ : ∃ W, w.alloc (.cells (stL q2 s2).toArray 28) = W := ⟨_, rfl⟩
  have hw1 : W = w1 := hW.symm.trans hw1
  subst hw1
  rw [hW] at HB HN H1
  obtain ⟨⟨z0, z1, z2, z3, z4, z5, z6, z7, z8, z9, z10, z11, z12, z13, z14⟩, f0⟩ := And.intro HN.out.st15 trivial
  have h15 : (wkL q s 0).length = 16 := rfl
  have hs : splice (wkL q s 0) 0 (stL q2 s2) = stL q2 s2 ++ [.int .i64 0] := rfl
  clear hW
  go_wp2_with (first
    | (refine wp_storeM rfl 28 _ _ rfl g 0 (stL q2 s2) rfl rfl rfl 53 (wkL q s 0) H1.out.bx 15 rfl (by rw [h15]; decide) infoSt ?_)
    | (refine wp_storeF rfl 3 _ _ rfl g 15 _ rfl rfl rfl 53 _ HG2.out 16 rfl (by decide) info1i ?_))
  intro w2 hg2 hw2
  have HG2 : Hid (Bx w2 g 53 (stL q2 s2 ++ [.int .i64 0])) := Lib.hid hg2
  have HW2 := Lib.hid hw2
  clear hg2 hw2
  go_wp2_with (refine wp_storeF rfl 3 _ _ rfl g 15 _ rfl rfl rfl 53 _ HG2.out 16 rfl (by decide) info1i ?_)
  intro w3 hg3 hw3
  have HG3 : Hid (Bx w3 g 53 (wkL q2 s2 f)) := Lib.hid hg3
  have HW3 := Lib.hid (HW2.out.trans hw3)
  clear hg3 hw3 z0 z1 z2 z3 z4 z5 z6 z7 z8 z9 z10 z11 z12 z13 z14
  go_wp2
  first | go_end0 | go_ret
  exact ⟨rfl, ⟨HG3.out, (H2.out.below HB.out).grown HL.out HW3.out (fun h => h rfl), HL.out⟩, (grown_of_below HB.out).trans HW3.out⟩
/-- keep, where something was thrown. -/
theorem Keep_no (g : Nat) (e : Int) (q2 : Ad) (s2 : Ps) (f : Int) (w : World) (h0 : e ≠ 0) (hc : w.cell? ⟨g, 15, none⟩ = some (.int .i64 e)) :
    Calls Tryd.prog 57 #[.pointer (some ⟨g, 0, none⟩), stV q2 s2, .int .i64 f] w fun r w' => r = .returned (.tuple #[]) ∧ Below w.heap.size w w' := by
  have HB := Lib.hid (below_lit w (.cells (stL q2 s2).toArray 28))
  have hc1 : (w.alloc (.cells (stL q2 s2).toArray 28)).cell? ⟨g, 15, none⟩ = some (.int .i64 e) := (HB.out.cell (World.block_lt_of_cell? w _ hc)).trans hc
  have HC := Lib.hid hc1
  clear hc hc1
  rw [stV_eq q2 s2]
  go_enter Tryd.func57, Tryd.ntmps57
  go_wp2_with fail
  refine (Ok_any g e false _ (by simpa using h0) HC.out).mono ?_
  rintro r w1 ⟨rfl, rfl⟩
  go_wp2
  first | go_end0 | go_ret
  exact ⟨rfl, HB.out⟩
end Go.Proofs.YtfkkmlgblhnkaaaDoor
