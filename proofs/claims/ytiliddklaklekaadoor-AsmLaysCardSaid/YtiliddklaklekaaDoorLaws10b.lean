
/- The walk of AsmBack. -/
import Derived.Test.YtiliddklaklekaaDoorAwake10
import Derived.Test.YtiliddklaklekaaDoorPlain10
namespace Go.Proofs.YtiliddklaklekaaDoor
open Go.RowKit

theorem Cell_at (A : Option Addr) (c : Nat) (i : Int) (l : List Int) (w : World) (n : Nat) (r t : Int) (hn : l.length = n) (hr : cellR l i = r) (ht : cellE l.length i = t) (hx : RdI w .u8 A c l) (hb : isB l) :
    Calls Tryd.prog 21 #[.slice A n c, .int .i64 i] w fun e w' => e = .returned (.tuple #[.int .i64 r, .int .i64 t]) ∧ w = w' := by
  subst hn hr ht
  exact Cell_any A c i l w hx hb

theorem Emit_is (V : Value) (q : Ad) (s : Ps) (A : Option Addr) (c n : Nat) (l : List Int) (s' : Ps) (er : Int) (w : World) (hV : V = stV q s) (hn : l.length = n) (hs : emitS s l = s') (he : emitE s l = er) (hp : RdP w q s) (hx : RdI w .i64 A c l) (hl : s.mem.length ≤ 140737488355328) (hsp : s.spots.length + n ≤ 1000000) :
    Calls Tryd.prog 12 #[V, .slice A n c] w fun e w' => ∃ q', e = .returned (.tuple #[stV q' s', .int .i64 er]) ∧ Res w.heap.size q s w' q' s' ∧ Below w.heap.size w w' := by
  subst hV
  exact Emit_any q s A c n l s' er w hn hs he hp hx hl hsp
/-- 400 bytes. -/
theorem make_400 : ∃ M : List Int, (∀ W : World, (Instr.makeSlice 22 (.int .i64 400) (.int .i64 400)).run Tryd.prog W = .ok (.slice (some ⟨W.heap.size, 0, none⟩) 400 400) (W.alloc (.cells (nums .u8 M).toArray 5 (0, 0)))) ∧ M.length = 400 ∧ isB M ∧ ∀ w : World, RdI (w.alloc (.cells (nums .u8 M).toArray 5 (0, 0))) .u8 (some ⟨w.heap.size, 0, none⟩) 400 M :=
  ⟨List.replicate 400 0, make_nums (P := Tryd.prog) 22 5 .u8 1 Tryd.underlying22 infoU8 400 (by omega) (by omega), List.length_replicate, isB_zero 400, fun w => rd_make w 400 (by omega)⟩

set_option maxHeartbeats 2000000 in
theorem AsmBack_walk (n : Int) (A : Option Addr) (c : Nat) (l : List Int) (w : World) (hn : 0 ≤ n ∧ n < 256) (hx : RdI w .i64 A c l) (hb : ∀ x ∈ l, -9223372036854775808 ≤ x ∧ x ≤ 9223372036854775807) (ht : Tab w) :
    Calls Tryd.prog 6 #[.int .u8 n, .slice A l.length c] w fun e w' => e = .returned (.bool true) ∧ Below w.heap.size w w' := by
  have HX := Lib.hid hx
  have HB := Lib.hid hb
  have HT := Lib.hid ht
  clear hx hb ht
  go_enter Tryd.func6, Tryd.ntmps6
  go_wp2_with fail
  refine (awake_any w HT.out).mono ?_
  rintro e w1 ⟨rfl, hb1⟩
  have HB1 := Lib.hid hb1
  clear hb1
  by_cases hl : 20 < l.length
  · go_wp2
    go_ret
    exact ⟨rfl, HB1.out⟩
  · obtain ⟨M, hmk, hM, hMB, hMR⟩ := make_400
    obtain ⟨k, hk, hk20⟩ : ∃ k : Nat, n.tmod 20 = k ∧ k < 20 := ⟨(n % 20).toNat, by rw [Int.tmod_eq_emod_of_nonneg hn.1]; omega, by omega⟩
    obtain ⟨L, hL⟩ : ∃ L, l.length = L := ⟨_, rfl⟩
    rw [hL] at hl ⊢
    have hml : (memP M (8 * (k : Int)) 3).mem.length = 400 := hM
    obtain ⟨s', hs'⟩ : ∃ s', emitS (memP M (8 * (k : Int)) 3) l = s' := ⟨_, rfl⟩
    have hall := emit_all l (memP M (8 * (k : Int)) 3) k rfl (by rw [hml]; omega) (fun x hx => by cases hx) HB.out
    rw [hs'] at hall
    have HS := Lib.hid hs'
    have HA := Lib.hid hall
    have HL := Lib.hid hL
    have HM := Lib.hid hml
    have HMB := Lib.hid hMB
    have HMR := Lib.hid hMR
    clear hs' hall hL hml hM hMB hMR
    go_wp2_with fail
    have HB2 := Lib.hid (below_two HB1.out (below_lit w1 (.cells (nums .u8 M).toArray 5 (0, 0))))
    refine (Emit_is _ (memA (some ⟨w1.heap.size, 0, none⟩) 400) (memP M (8 * (k : Int)) 3) A c L l s' 0 _ (by rw [stV_eq, HM.out]; rfl) HL.out HS.out HA.out.e (rdP_mem (HMR.out w1) HMB.out _ 3) (HX.out.below HB2.out) (by rw [HM.out]; decide) (show 0 + L ≤ 1000000 by omega)).mono ?_
    rintro e w3 ⟨q3, rfl, hr3, hb3⟩
    have HB3 := Lib.hid (below_two HB2.out hb3)
    have HR3 := Lib.hid hr3.rd
    clear hr3 hb3 hmk HB2
    rw [stV_eq q3 s']
    obtain ⟨W, hW⟩ : ∃ W, w3.alloc (.cells #[.slice q3.m s'.mem.length q3.mc, .slice q3.d s'.data.length q3.dc, .slice q3.r s'.ret.length q3.rc, .slice q3.c s'.ctl.length q3.cc, .slice q3.w s'.words.length q3.wc, .slice q3.s s'.spots.length q3.sc, .slice q3.o s'.out.length q3.oc, .int .i64 s'.ip, .int .i64 s'.here, .int .i64 s'.pos, .int .i64 s'.tok, .int .i64 s'.inp, .int .i64 s'.err, .bool s'.comp, .bool s'.halt] 28) = W := ⟨_, rfl⟩
    have HB4 : Hid (Below w.heap.size w W) := Lib.hid (by rw [← hW]; exact below_two HB3.out (below_lit w3 _))
    have HG : Hid (Bx W w3.heap.size 28 (stL q3 s')) := Lib.hid (by rw [← hW]; exact Bx.new w3 _ _ _ _ rfl rfl)
    have HR4 : Hid (RdP W q3 s') := Lib.hid (by rw [← hW]; exact HR3.out.below (below_lit w3 _))
    have HWW := Lib.hid hW
    clear hW
    have hsl : s'.spots.length = L := by rw [HA.out.spots, List.length_append, List.length_map, List.length_range, HL.out]; exact Nat.zero_add L
    have HSL := Lib.hid hsl
    clear hsl
    go_wp2_with fail
    rw [HWW.out]
    go_loopw [9] (fun i wr => ∃ j : Nat, i = .int .i64 j ∧ j ≤ L ∧ wr = W) (fun i _ => L - (intOf i).toNat)
    case atStart => exact ⟨0, rfl, by omega, rfl⟩
    case round =>
      obtain ⟨j, rfl, hj, rfl⟩ := hrel
      by_cases hlt : j < L
      · obtain ⟨ad, rfl, hcx⟩ := RdI.at_ (HX.out.below HB4.out) (show j < l.length by rw [HL.out]; exact hlt)
        obtain ⟨x, hxk⟩ : ∃ x, l.getD j 0 = x := ⟨_, rfl⟩
        rw [hxk] at hcx
        have HXK := Lib.hid hxk
        have hcr : cellR s'.mem (8 * (k : Int) + 8 * (j : Int)) = x := by
          rw [show 8 * (k : Int) + 8 * (j : Int) = 8 * ((k + j : Nat) : Int) by omega, HA.out.new j (by rw [HL.out]; exact hlt)]
          exact hxk
        have hce : cellE s'.mem.length (8 * (k : Int) + 8 * (j : Int)) = 0 := by
          rw [show 8 * (k : Int) + 8 * (j : Int) = 8 * ((k + j : Nat) : Int) by omega, HA.out.len, HM.out]
          exact cellE_at (by omega)
        have HC := Lib.hid (And.intro hcr hce)
        have hsj : s'.spots[j]! = (8 * (k : Int) + 8 * (j : Int), 3) := by
          rw [show s'.spots = [] ++ _ from HA.out.spots, List.nil_append, getElem!_pos _ j (by rw [List.length_map, List.length_range, HL.out]; exact hlt), List.getElem_map, List.getElem_range]
          exact Prod.ext (by show 8 * ((k + j : Nat) : Int) = _; omega) rfl
        obtain ⟨ad2, had, hc2⟩ := RdE.all encSp_len (by decide) HR4.out.spots (by rw [HSL.out]; omega)
        have c0 : wr.cell? ⟨w3.heap.size, 0, none⟩ = some (.slice q3.m s'.mem.length q3.mc) := HG.out.cell 0
        have c5 : wr.cell? ⟨w3.heap.size, 5, none⟩ = some (.slice (some ad2) L q3.sc) := by
          rw [HG.out.cell 5, ← had, ← HSL.out]
          rfl
        have e0 := hc2.at0 (show j < s'.spots.length by rw [HSL.out]; exact hlt) (v := .int .i64 (8 * (k : Int) + 8 * (j : Int))) (by rw [hsj]; rfl)
        have e1 := hc2.at' (show j < s'.spots.length by rw [HSL.out]; exact hlt) 1 (by decide) (v := .int .i64 3) (by rw [hsj]; rfl)
        clear hxk hcr hce hsj had hc2
        go_wp2_with fail
        refine (Cell_at q3.m q3.mc _ s'.mem wr _ x 0 rfl HC.out.1 HC.out.2 HR4.out.mem HR4.out.memB).mono ?_
        rintro e w5 ⟨rfl, rfl⟩
        go_wp2
        go_roundw
        case rel => exact ⟨j + 1, by go_num, by omega, by trivial⟩
        case measure => simp [intOf] <;> omega
      · have hjL : j = L := by omega
        subst hjL
        have c8 : wr.cell? ⟨w3.heap.size, 8, none⟩ = some (.int .i64 (8 * (k : Int) + 8 * (j : Int))) := by
          rw [HG.out.cell 8, show 8 * (k : Int) + 8 * (j : Int) = 8 * ((k + j : Nat) : Int) by omega, ← HL.out, ← HA.out.here]
          rfl
        have c5 : wr.cell? ⟨w3.heap.size, 5, none⟩ = some (.slice q3.s j q3.sc) := by
          rw [HG.out.cell 5, ← HSL.out]
          rfl
        go_wp2
        go_ret
        exact ⟨rfl, HB4.out⟩
end Go.Proofs.YtiliddklaklekaaDoor
