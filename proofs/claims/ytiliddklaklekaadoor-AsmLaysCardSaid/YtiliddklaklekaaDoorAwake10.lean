
/- nostoslaw10: awake. -/
import Derived.Test.YtiliddklaklekaaDoorEmit10
import Derived.Test.YtiliddklaklekaaDoorRFetch10
namespace Go.Proofs.YtiliddklaklekaaDoor
open Go.RowKit

def memA (A : Option Addr) (c : Nat) : Ad := ⟨A, c, none, 0, none, 0, none, 0, none, 0, none, 0, none, 0⟩
def memP (m : List Int) (here tok : Int) : Ps := ⟨m, [], [], [], [], [], [], 0, here, 0, tok, 0, 0, false, false⟩
theorem rdP_mem {w : World} {A : Option Addr} {c : Nat} {m : List Int} (h : RdI w .u8 A c m) (hb : isB m) (here tok : Int) : RdP w (memA A c) (memP m here tok) :=
  ⟨h, hb, rd_nil w 1, rd_nil w 2, rd_nil w 1, rd_nil w 4, rd_nil w 2, rd_nil w 1, by simp [memP, isB]⟩
theorem isB_zero (n : Nat) : isB (List.replicate n 0) := by
  intro x hx
  rw [List.eq_of_mem_replicate hx]
  decide
theorem rd_make (w : World) (n : Nat) (h : n ≤ 1000) : RdI (w.alloc (.cells (nums .u8 (List.replicate n 0)).toArray 5 (0, 0))) .u8 (some ⟨w.heap.size, 0, none⟩) n (List.replicate n 0) :=
  rd_alloc w (nums .u8 (List.replicate n 0)) (nums .u8 (List.replicate n 0)).toArray 5 (0, 0) _ _ _ rfl (by simp [nums_length]) (by simp) (by unfold maxLen; omega)

set_option maxHeartbeats 2000000 in
theorem awake_any (w : World) (ht : Tab w) : Calls Tryd.prog 8 #[] w fun e w' => e = .returned (.bool true) ∧ Below w.heap.size w w' := by
  have hmk : ∀ W : World, (Instr.makeSlice 22 (.int .i64 32) (.int .i64 32)).run Tryd.prog W = .ok (.slice (some ⟨W.heap.size, 0, none⟩) 32 32) (W.alloc (.cells (nums .u8 (List.replicate 32 0)).toArray 5 (0, 0))) :=
    make_nums (P := Tryd.prog) 22 5 .u8 1 Tryd.underlying22 infoU8 32 (by omega) (by omega)
  have hmk8 : ∀ W : World, (Instr.makeSlice 22 (.int .i64 8) (.int .i64 8)).run Tryd.prog W = .ok (.slice (some ⟨W.heap.size, 0, none⟩) 8 8) (W.alloc (.cells (nums .u8 (List.replicate 8 0)).toArray 5 (0, 0))) :=
    make_nums (P := Tryd.prog) 22 5 .u8 1 Tryd.underlying22 infoU8 8 (by omega) (by omega)
  obtain ⟨s', hs'⟩ : ∃ s', emitS (memP (List.replicate 32 0) 8 5) [2, 77] = s' := ⟨_, rfl⟩
  have h1 : emitE (memP (List.replicate 32 0) 8 5) [2, 77] = 0 := by decide +kernel
  have h2 : s'.here = 24 := by rw [← hs']; decide +kernel
  have h3 : s'.spots = [(8, 5), (16, 5)] := by rw [← hs']; decide +kernel
  have h4 : s'.mem.length = 32 := by rw [← hs']; decide +kernel
  have h5 : fetR s'.mem 8 = (2, 77, 24, 0) := by rw [← hs']; decide +kernel
  have H := Lib.hid (And.intro hs' (And.intro h1 (And.intro h2 (And.intro h3 (And.intro h4 h5)))))
  clear hs' h1 h2 h3 h4 h5
  have HT := Lib.hid ht
  clear ht
  go_enter Tryd.func8, Tryd.ntmps8
  go_wp2_with fail
  have HB0 := Lib.hid (below_two (below_lit w (.cells (nums .u8 (List.replicate 32 0)).toArray 5 (0, 0))) (below_lit _ (.cells #[.int .i64 2, .int .i64 77] 3)))
  refine (Emit_any (memA (some ⟨w.heap.size, 0, none⟩) 32) (memP (List.replicate 32 0) 8 5) _ 2 2 [2, 77] s' 0 _ rfl H.out.1 H.out.2.1 (rdP_mem ((rd_make w 32 (by omega)).below (below_lit _ _)) (isB_zero 32) 8 5) ?_ (by decide) (by decide)).mono ?_
  · have h := rd_alloc (w.alloc (.cells (nums .u8 (List.replicate 32 0)).toArray 5 (0, 0))) [.int .i64 2, .int .i64 77] #[.int .i64 2, .int .i64 77] 3 (0, 0) 2 2 1 rfl rfl (by decide) (by decide)
    have e : (w.alloc (.cells (nums .u8 (List.replicate 32 0)).toArray 5 (0, 0))).heap.size = w.heap.size + 1 := by simp
    rw [e] at h
    exact h
  rintro e w2 ⟨q2, rfl, hr2, hb2⟩
  have HB2 := Lib.hid (below_two HB0.out hb2)
  have HR2 := Lib.hid hr2.rd
  clear hr2 hb2
  rw [stV_eq q2 s']
  go_wp2_with fail
  have HB3 := Lib.hid (below_two HB2.out (below_lit w2 (.cells (stL q2 s').toArray 28)))
  have HA3 : Hid (Bx (w2.alloc (.cells (stL q2 s').toArray 28)) w2.heap.size 28 (stL q2 s')) := Lib.hid (Bx.new w2 _ _ _ _ rfl rfl)
  have HR3 := Lib.hid (HR2.out.below (below_lit w2 (.cells (stL q2 s').toArray 28)))
  refine (Fetch_any q2.m q2.mc s'.mem.length s'.mem 8 _ _ rfl H.out.2.2.2.2.2 HR3.out.mem HR3.out.memB (by rw [H.out.2.2.2.2.1]; decide) (HT.out.below HB3.out)).mono ?_
  rintro e w4 ⟨rfl, hb4⟩
  have HB4 := Lib.hid (below_two HB3.out hb4)
  have HA4 := Lib.hid (HA3.out.below hb4)
  have HR4 := Lib.hid (HR3.out.below hb4)
  clear hb4 HB3 HA3 HR3
  have ef : fetV (2, 77, 24, 0) = .tuple #[.int .i64 2, .int .i64 77, .int .i64 24, .int .i64 0] := rfl
  rw [ef]
  clear ef
  go_wp2_with fail
  have hb5 := below_lit w4 (.cells (nums .u8 (List.replicate 8 0)).toArray 5 (0, 0))
  refine (Comma_any (memA (some ⟨w4.heap.size, 0, none⟩) 8) (memP (List.replicate 8 0) 8 0) 1 zeroP (-8) _ (commaS_no (by decide +kernel)) (by decide +kernel) (rdP_mem (rd_make w4 8 (by omega)) (isB_zero 8) 8 0) (by decide)).mono ?_
  rintro e w6 ⟨q6, rfl, _, hb6⟩
  have HB6 := Lib.hid (below_two HB4.out (below_two hb5 hb6))
  have HA6 := Lib.hid ((HA4.out.below hb5).below hb6)
  have HR6 := Lib.hid ((HR4.out.below hb5).below hb6)
  clear hb5 hb6 HB4 HA4 HR4 hmk hmk8
  rw [stV_eq q6 zeroP]
  have hal := below_lit w6 (.cells #[.slice q6.m zeroP.mem.length q6.mc, .slice q6.d zeroP.data.length q6.dc, .slice q6.r zeroP.ret.length q6.rc, .slice q6.c zeroP.ctl.length q6.cc, .slice q6.w zeroP.words.length q6.wc, .slice q6.s zeroP.spots.length q6.sc, .slice q6.o zeroP.out.length q6.oc, .int .i64 zeroP.ip, .int .i64 zeroP.here, .int .i64 zeroP.pos, .int .i64 zeroP.tok, .int .i64 zeroP.inp, .int .i64 zeroP.err, .bool zeroP.comp, .bool zeroP.halt] 28)
  have HB7 := Lib.hid (below_two HB6.out hal)
  have hA := HA6.out.below hal
  have hR := HR6.out.below hal
  have c8 : (w6.alloc (.cells #[.slice q6.m zeroP.mem.length q6.mc, .slice q6.d zeroP.data.length q6.dc, .slice q6.r zeroP.ret.length q6.rc, .slice q6.c zeroP.ctl.length q6.cc, .slice q6.w zeroP.words.length q6.wc, .slice q6.s zeroP.spots.length q6.sc, .slice q6.o zeroP.out.length q6.oc, .int .i64 zeroP.ip, .int .i64 zeroP.here, .int .i64 zeroP.pos, .int .i64 zeroP.tok, .int .i64 zeroP.inp, .int .i64 zeroP.err, .bool zeroP.comp, .bool zeroP.halt] 28)).cell? ⟨w2.heap.size, 8, none⟩ = some (.int .i64 24) := by rw [hA.cell 8, ← H.out.2.2.1]; rfl
  have hsp := hR.spots
  unfold RdE at hsp
  rw [H.out.2.2.2.1] at hsp
  obtain ⟨ad, had, hc⟩ := RdE.all encSp_len (by decide) hsp (by decide)
  have c5 : (w6.alloc (.cells #[.slice q6.m zeroP.mem.length q6.mc, .slice q6.d zeroP.data.length q6.dc, .slice q6.r zeroP.ret.length q6.rc, .slice q6.c zeroP.ctl.length q6.cc, .slice q6.w zeroP.words.length q6.wc, .slice q6.s zeroP.spots.length q6.sc, .slice q6.o zeroP.out.length q6.oc, .int .i64 zeroP.ip, .int .i64 zeroP.here, .int .i64 zeroP.pos, .int .i64 zeroP.tok, .int .i64 zeroP.inp, .int .i64 zeroP.err, .bool zeroP.comp, .bool zeroP.halt] 28)).cell? ⟨w2.heap.size, 5, none⟩ = some (.slice (some ad) 2 q2.sc) := by rw [hA.cell 5, ← had]; show some (Value.slice q2.s s'.spots.length q2.sc) = _; rw [H.out.2.2.2.1]; rfl
  have e0 : (w6.alloc (.cells #[.slice q6.m zeroP.mem.length q6.mc, .slice q6.d zeroP.data.length q6.dc, .slice q6.r zeroP.ret.length q6.rc, .slice q6.c zeroP.ctl.length q6.cc, .slice q6.w zeroP.words.length q6.wc, .slice q6.s zeroP.spots.length q6.sc, .slice q6.o zeroP.out.length q6.oc, .int .i64 zeroP.ip, .int .i64 zeroP.here, .int .i64 zeroP.pos, .int .i64 zeroP.tok, .int .i64 zeroP.inp, .int .i64 zeroP.err, .bool zeroP.comp, .bool zeroP.halt] 28)).cell? ⟨ad.block, ad.off + 2, none⟩ = some (.int .i64 16) := hc 1 0 _ (by decide) rfl
  have e1 : (w6.alloc (.cells #[.slice q6.m zeroP.mem.length q6.mc, .slice q6.d zeroP.data.length q6.dc, .slice q6.r zeroP.ret.length q6.rc, .slice q6.c zeroP.ctl.length q6.cc, .slice q6.w zeroP.words.length q6.wc, .slice q6.s zeroP.spots.length q6.sc, .slice q6.o zeroP.out.length q6.oc, .int .i64 zeroP.ip, .int .i64 zeroP.here, .int .i64 zeroP.pos, .int .i64 zeroP.tok, .int .i64 zeroP.inp, .int .i64 zeroP.err, .bool zeroP.comp, .bool zeroP.halt] 28)).cell? ⟨ad.block, ad.off + 2 + 1, none⟩ = some (.int .i64 5) := hc 1 1 _ (by decide) rfl
  clear hal hA hR hsp hc had
  go_wp2_with fail
  refine (Up_any 9 16 _ (by decide +kernel)).mono ?_
  rintro e w1 ⟨rfl, rfl⟩
  go_wp2
  go_ret
  exact ⟨rfl, HB7.out⟩
end Go.Proofs.YtiliddklaklekaaDoor
