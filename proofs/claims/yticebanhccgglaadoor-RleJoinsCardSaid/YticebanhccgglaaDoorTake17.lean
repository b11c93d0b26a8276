
/- rle.Take. -/
import Derived.Test.YticebanhccgglaaDoorLast17
import Derived.Test.YticebanhccgglaaDoorRound
import Derived.Test.YticebanhccgglaaDoorRRText16
import Derived.Test.YticebanhccgglaaDoorStepApp
import Derived.Test.YticebanhccgglaaDoorPlain17b
import Derived.Deep.RegionLaw
namespace Go.Proofs.YticebanhccgglaaDoor
open Go.RowKit

def sliceLn : Value → Nat
  | .slice _ n _ => n
  | _ => 0
theorem box_new17 (w : World) : Bx (w.alloc (.cells #[.slice none 0 0] 22)) w.heap.size 22 [.slice none 0 0] := Bx.new w _ _ _ _ rfl rfl

set_option maxRecDepth 100000 in
set_option maxHeartbeats 4000000 in
theorem Take_any (A : Option Addr) (c N : Nat) (l : List Int) (many : Int) (f : List Int × Int) (w : World) (hN : l.length = N) (hx : RdI w .u8 A c l) (hb : ∀ x ∈ l, 0 ≤ x ∧ x < 256) (hlen : N ≤ 1000000) (hm : many ≤ 1000000) (hf : takeT many l = f) :
    Calls Tryd.prog 11 #[.slice A N c, .int .i64 many] w fun e w' => ∃ x, e = .returned (.tuple #[x, .int .i64 f.2]) ∧ w'.ownsRow w.heap.size 5 1 x f.1.length (nums .u8 f.1) ∧ Below w.heap.size w w' := by
  by_cases h0 : many < 0
  · rw [takeT, if_pos h0] at hf
    subst hf
    go_enter Tryd.func11, Tryd.ntmps11
    go_wp2
    go_ret2
    exact ⟨_, rfl, ⟨rfl, .inl ⟨rfl, rfl⟩⟩, Below.refl _ _⟩
  · rw [takeT, if_neg h0] at hf
    obtain ⟨M, hM⟩ : ∃ M : Nat, many = M := ⟨many.toNat, by omega⟩
    subst hM
    have HN := Lib.hid hN
    have HX := Lib.hid hx
    have HBD := Lib.hid hb
    have HF0 := Lib.hid hf
    have HG0 := Lib.hid (box_new17 w)
    have HB0 := Lib.hid (below_lit w (.cells #[.slice none 0 0] 22))
    clear hx hb hf h0 hN
    go_enter Tryd.func11, Tryd.ntmps11
    go_wp2_with fail
    go_loopw [0] (fun v wr => ∃ (A1 : Option Addr) (c1 n1 : Nat) (l1 : List Int) (A7 : Option Addr) (c7 K : Nat) (out : List Int), v = .slice A1 n1 c1 ∧ Hid (l1.length = n1) ∧ n1 ≤ N ∧ Hid (out.length = K) ∧ K ≤ M ∧ Hid (RdI w .u8 A1 c1 l1) ∧ Hid (∀ x ∈ l1, 0 ≤ x ∧ x < 256) ∧ Hid (takeR (M : Int) out l1 = f) ∧ Hid (Bx wr w.heap.size 22 [.slice A7 K c7]) ∧ Hid (wr.ownsRow (w.heap.size + 1) 5 1 (.slice A7 K c7) K (nums .u8 out)) ∧ Hid (Below w.heap.size w wr)) (fun v _ => sliceLn v)
    case atStart => exact ⟨A, c, N, l, none, 0, 0, [], rfl, HN, Nat.le_refl _, Lib.hid rfl, by omega, HX, HBD, HF0, HG0, Lib.hid ⟨rfl, .inl ⟨rfl, rfl⟩⟩, HB0⟩
    case round =>
      obtain ⟨A1, c1, n1, l1, A7, c7, K, out, rfl, HN1, hn1, HK, hKM, HX1, HBD1, HF, HG, HO, HB⟩ := hrel
      have hwr : w.heap.size < wr.heap.size := HG.out.lt
      have c0 : wr.cell? ⟨w.heap.size, 0, none⟩ = some (.slice A7 K c7) := HG.out.cell 0
      by_cases hlt : K < M
      · obtain ⟨n, l2, e2, hr⟩ : ∃ n l2 e2, readS l1 0 1 ((M : Int) - (K : Int)) = (n, l2, e2) := ⟨_, _, _, rfl⟩
        obtain ⟨k, hk⟩ : ∃ k, (grp (zz n)).length = k := ⟨_, rfl⟩
        have hltO : (out.length : Int) < (M : Int) := by rw [HK.out]; omega
        have HR : Hid (readS l1 0 1 ((M : Int) - (out.length : Int)) = (n, l2, e2)) := Lib.hid (by rw [HK.out]; exact hr)
        have hcall := First_any A1 c1 n1 l1 ((M : Int) - (K : Int)) n l2 e2 k wr HN1.out (HX1.out.below HB.out) HBD1.out (by omega) (by omega) hr hk
        have HKG := Lib.hid hk
        have HLT := Lib.hid hltO
        clear hr hk hltO
        go_wp2_with fail
        refine hcall.mono ?_
        clear hcall c0
        rintro e w1 ⟨rfl, hb1⟩
        have HB1 := Lib.hid (below_two HB.out hb1)
        have HG1 := Lib.hid (HG.out.below hb1)
        have HO1 := Lib.hid (own_below HO.out hb1)
        have HX2 := Lib.hid (HX1.out.below HB1.out)
        have hs1 : w.heap.size + 1 ≤ w1.heap.size := Nat.le_trans hwr hb1.size
        have c0 : w1.cell? ⟨w.heap.size, 0, none⟩ = some (.slice A7 K c7) := HG1.out.cell 0
        clear HB HG HO hb1
        by_cases he : e2 = 0
        · subst he
          have hbnd := readS_bnd HR.out
          rw [HK.out] at hbnd
          have hform := read_form HBD1.out HR.out
          have hlens : n1 = k + l2.length := by rw [← HN1.out, hform, List.length_append, HKG.out]
          by_cases hz : l2.length = 0
          · have hl2 : l2 = [] := List.eq_nil_of_length_eq_zero hz
            subst hl2
            have hfin := takeR_short (n := n) HLT.out HR.out
            rw [HF.out] at hfin
            subst hfin
            obtain rfl : n1 = k := by simpa using hlens
            clear hform hlens hz
            go_wp2
            go_ret2
            exact ⟨_, rfl, ⟨rfl, .inl ⟨rfl, rfl⟩⟩, HB1.out⟩
          · obtain ⟨y, t, rfl⟩ : ∃ y t, l2 = y :: t := by
              cases l2 with
              | nil => exact absurd rfl hz
              | cons y t => exact ⟨y, t, rfl⟩
            obtain ⟨R, hR⟩ : ∃ R, t.length = R := ⟨_, rfl⟩
            have hn1k : n1 = k + (R + 1) := by rw [hlens, List.length_cons, hR]
            have hRn : R < n1 := by omega
            have hk1 : k < l1.length := by rw [HN1.out]; omega
            have hyk : l1.getD k 0 = y := by
              rw [hform, List.getD_eq_getElem?_getD, List.getElem?_append_right (by rw [HKG.out]; exact Nat.le_refl _), HKG.out, Nat.sub_self]
              rfl
            have hdk : l1.drop (k + 1) = t := by
              rw [hform, ← HKG.out, List.drop_append]
              simp
            have hd1 : (l1.drop k).take 1 = [y] := by
              rw [hform, ← HKG.out, List.drop_append]
              simp
            obtain ⟨ad, rfl, e0⟩ := RdI.at_ HX2.out hk1
            rw [hyk] at e0
            have hcap1 := HX2.out.le
            rw [HN1.out] at hcap1
            have hcut : RdI w1 .u8 (cutA (some ad) k (c1 - k)) (c1 - k) [y] := by
              have := RdI.cut HX2.out k 1 (c1 - k) (by omega) (by omega) (by omega)
              rw [hd1] at this
              exact this
            have hrest : RdI w .u8 (cutA (some ad) (k + 1) (c1 - (k + 1))) (c1 - (k + 1)) t := by
              have := RdI.cut HX1.out (k + 1) R (c1 - (k + 1)) (by rw [HN1.out]; omega) (by omega) (by omega)
              rw [hdk, ← hR, List.take_length] at this
              exact this
            have hnx := takeR_next (n := n) (c := y) (t := t) HLT.out HR.out
            rw [HF.out] at hnx
            have ba : ((k : Int) == (n1 : Int)) = false := by
              have : (k : Int) ≠ (n1 : Int) := by omega
              simpa using this
            have bz : ¬ (k : Int) = (n1 : Int) := by omega
            have b1 : (0 : Int) ≤ (k : Int) := by omega
            have b2 : (k : Int) < (n1 : Int) := by omega
            obtain ⟨k1, hk1'⟩ : ∃ k1 : Nat, k1 = k + 1 := ⟨_, rfl⟩
            have hwrap : IntKind.i64.wrap ((k : Int) + 1) = (k1 : Int) := by rw [IntKind.wrap_i64]; omega
            have hsA : ∀ W : World, (Instr.sliceAt 22 (.slice (some ad) n1 c1) (some (.int .i64 k)) (some (.int .i64 k1)) none).run Tryd.prog W = .ok (.slice (cutA (some ad) k (c1 - k)) 1 (c1 - k)) W := fun W => by
              have := sl_lh (some ad) n1 c1 k k1 W (by omega) (by omega)
              rwa [show k1 - k = 1 by omega] at this
            have hsB : ∀ W : World, (Instr.sliceAt 22 (.slice (some ad) n1 c1) (some (.int .i64 k1)) none none).run Tryd.prog W = .ok (.slice (cutA (some ad) k1 (c1 - k1)) R (c1 - k1)) W := fun W => by
              have := sl_l (some ad) n1 c1 k1 W (by omega) (by omega)
              rwa [show n1 - k1 = R by omega] at this
            obtain ⟨A2, hA2⟩ : ∃ A2, cutA (some ad) k (c1 - k) = A2 := ⟨_, rfl⟩
            obtain ⟨c2, hc2⟩ : ∃ c2, c1 - k = c2 := ⟨_, rfl⟩
            rw [hA2, hc2] at hcut
            rw [hc2, ← hc2, hA2, hc2] at hsA
            rw [← hk1'] at hrest
            obtain ⟨A4, hA4⟩ : ∃ A4, cutA (some ad) k1 (c1 - k1) = A4 := ⟨_, rfl⟩
            obtain ⟨c4, hc4⟩ : ∃ c4, c1 - k1 = c4 := ⟨_, rfl⟩
            rw [hA4, hc4] at hrest hsB
            have HCUT := Lib.hid hcut
            have HREST := Lib.hid hrest
            have HNX := Lib.hid hnx
            have HTB : Hid (∀ x ∈ t, 0 ≤ x ∧ x < 256) := Lib.hid (fun x hx => HBD1.out x (by rw [hform]; simp [hx]))
            have HLR := Lib.hid hR
            obtain ⟨m, hmn⟩ : ∃ m : Nat, n = m := ⟨n.toNat, by omega⟩
            subst hmn
            obtain ⟨b, hbv⟩ : ∃ b, decide (out.getLast? = some y) = b := ⟨_, rfl⟩
            have hlast := Last_any w.heap.size A7 c7 K out y b w1 HK.out c0 (by have := own_rd HO1.out; unfold RdI; rw [HK.out]; exact this) (by omega) hbv
            have HBV := Lib.hid hbv
            have hm1 : 1 ≤ m ∧ K + m ≤ M := by omega
            clear hn1k hcap1 hcut hrest hnx hR hform hlens hz hk1 hyk hdk hd1 hA2 hc2 hA4 hc4 hbv hbnd hk1'
            go_wp2_with fail
            refine hlast.mono ?_
            clear hlast
            rintro e w2 ⟨rfl, rfl⟩
            cases b with
            | true =>
              have hl : out.getLast? = some y := by simpa using HBV.out
              have hfin := HNX.out
              rw [if_pos hl] at hfin
              subst hfin
              clear hl
              go_wp2
              go_ret2
              exact ⟨_, rfl, ⟨rfl, .inl ⟨rfl, rfl⟩⟩, HB1.out⟩
            | false =>
              have HF2 : Hid (takeR (M : Int) (out ++ List.replicate m y) t = f) := Lib.hid (by
                have hl : ¬ out.getLast? = some y := by simpa using HBV.out
                have hfin := HNX.out
                rw [if_neg hl, Int.toNat_natCast] at hfin
                exact hfin.symm)
              have HRP := Lib.hid (Repeat_any A2 c2 y m w1.drew (HCUT.out.below (Below.refl _ _).drew) hm1.1 (by omega))
              clear HNX HBV
              go_wp2_with fail
              go_region_law (first
                | (go_simp; go_at_call 18; refine HRP.out.mono ?_; rintro e w2 ⟨A3, c3, rfl, hr3, hb3⟩; have c0 : w2.cell? ⟨w.heap.size, 0, none⟩ = some (.slice A7 K c7) := (HG1.out.below ((Below.refl _ _).drew.trans hb3)).cell 0)
                | ((refine step_app (w0 := w1) rfl (.tmp 44) (.tmp 51) 22 5 (.int .u8 0) 1 1 rfl Tryd.underlying22 infoU8 rfl (by decide) (by decide) (w.heap.size + 1) _ K (nums .u8 out) rfl (own_below HO1.out ((Below.refl _ _).drew.trans hb3)) A3 m c3 (nums .u8 (List.replicate m y)) rfl hr3 (nums_one _ _) (by omega) (Nat.le_trans hs1 hb3.size) (((Below.refl _ _).drew.trans hb3).mono hs1) ?_); intro v3 w3 ho3 hb4 hg3; have hg4 : Bx w3 w.heap.size 22 [.slice A7 K c7] := ((HG1.out.below ((Below.refl _ _).drew.trans hb3)).keepOwn hg3 (own_below HO1.out ((Below.refl _ _).drew.trans hb3)) (by omega)); obtain ⟨A9, q9, rfl, hr9⟩ := Rd.own ho3; have c9 : w3.cell? ⟨w.heap.size, 0, none⟩ = some (.slice A7 K c7) := hg4.cell 0; have f9 := hg4.free 0))
              all_goals
                have hb5 := hb4.mono (show w.heap.size ≤ w.heap.size + 1 by omega)
                have hg5 := grown_setCell w3 w.heap.size 0 (.slice A9 (K + m) q9)
                have HB5 : Hid (Below w.heap.size w (w3.setCell ⟨w.heap.size, 0, none⟩ (.slice A9 (K + m) q9))) := Lib.hid (below_grown (HB1.out.trans hb5) (by have := hb4.size; omega) hg5 (Nat.le_refl _))
                have HG5 := Lib.hid (hg4.setc 0 (.slice A9 (K + m) q9))
                have HO5 := Lib.hid (own_keep ho3 hg5 (Nat.lt_succ_self _))
                have ht3 : t.length = R := HLR.out
                have HLN : Hid (t.length = R) := Lib.hid ht3
                clear ht3 hb5 hg5 hb4 hg4 ho3 hg3 c0 c9 f9 hr9 hb3 hr3
                go_wp2
                go_roundw
                case rel => exact ⟨A4, c4, R, t, A9, q9, K + m, out ++ List.replicate m y, rfl, HLN, by omega, Lib.hid (by rw [List.length_append, List.length_replicate, HK.out]), hm1.2, HREST, HTB, HF2, HG5, Lib.hid (by rw [show nums .u8 (out ++ List.replicate m y) = nums .u8 out ++ nums .u8 (List.replicate m y) by simp [nums]]; exact HO5.out), HB5⟩
                case measure => simp [sliceLn] <;> omega
        · have hfin := takeR_bad HLT.out HR.out he
          rw [HF.out] at hfin
          subst hfin
          go_wp2
          go_ret2
          exact ⟨_, rfl, ⟨rfl, .inl ⟨rfl, rfl⟩⟩, HB1.out⟩
      · have hnl : ¬ (out.length : Int) < (M : Int) := by rw [HK.out]; omega
        have hfin := takeR_done hnl (l := l1)
        rw [HF.out] at hfin
        by_cases hl : n1 = 0
        · have hl1 : l1 = [] := List.eq_nil_of_length_eq_zero (by rw [HN1.out, hl])
          rw [if_pos hl1] at hfin
          subst hfin hl
          clear hl1 hnl
          go_wp2
          go_ret2
          exact ⟨_, rfl, by rw [HK.out]; exact own_mono HO.out (by omega), HB.out⟩
        · have hl1 : l1 ≠ [] := fun e => hl (by rw [← HN1.out, e]; rfl)
          rw [if_neg hl1] at hfin
          subst hfin
          clear hl1 hnl
          go_wp2
          go_ret2
          exact ⟨_, rfl, ⟨rfl, .inl ⟨rfl, rfl⟩⟩, HB.out⟩
end Go.Proofs.YticebanhccgglaaDoor
