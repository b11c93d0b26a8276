
/- nostosref17.Take. -/
import Derived.Test.YticebanhccgglaaDoorRPut17
import Derived.Test.YticebanhccgglaaDoorRRead16
import Derived.Test.YticebanhccgglaaDoorBox
namespace Go.Proofs.YticebanhccgglaaDoor
open Go.RowKit

theorem infoRd : (Tryd.prog.info? 43).map (·.size) = some 3 := by kernel_rfl
theorem info1i : (Tryd.prog.info? 3).map (·.size) = some 1 := by kernel_rfl
theorem drop_cons17 {l : List Int} {k : Nat} (h : k < l.length) : l.drop k = l.getD k 0 :: l.drop (k + 1) := by
  rw [List.drop_eq_getElem_cons h]
  simp [List.getD_eq_getElem?_getD, h]
def sliceLen : Value → Nat
  | .slice _ n _ => n
  | _ => 0
def rdL (A : Option Addr) (n c : Nat) (i e : Int) : List Value := [.slice A n c, .int .i64 i, .int .i64 e]

set_option maxRecDepth 100000 in
set_option maxHeartbeats 4000000 in
theorem RTake_any (A : Option Addr) (c : Nat) (l : List Int) (many : Int) (f : List Int × Int) (w : World) (hx : RdI w .u8 A c l) (hb : ∀ x ∈ l, 0 ≤ x ∧ x < 256) (hlen : l.length ≤ 1000000) (hm : many ≤ 1000000) (hf : takeT many l = f) :
    Calls Tryd.prog 12 #[.slice A l.length c, .int .i64 many] w fun e w' => ∃ x, e = .returned (.tuple #[x, .int .i64 f.2]) ∧ w'.ownsRow w.heap.size 5 1 x f.1.length (nums .u8 f.1) ∧ Below w.heap.size w w' := by
  by_cases h0 : many < 0
  · rw [takeT, if_pos h0] at hf
    subst hf
    go_enter Tryd.func12, Tryd.ntmps12
    go_wp2
    go_ret2
    exact ⟨_, rfl, ⟨rfl, .inl ⟨rfl, rfl⟩⟩, Below.refl _ _⟩
  · rw [takeT, if_neg h0] at hf
    have HX := Lib.hid hx
    have HBD := Lib.hid hb
    have hle := hx.le
    have hcp := hx.cap
    unfold maxLen at hcp
    have HB0 := Lib.hid (below_lit w (.cells #[.slice A l.length c, .int .i64 0, .int .i64 0] 43))
    have HG0 : Hid (Bx (w.alloc (.cells #[.slice A l.length c, .int .i64 0, .int .i64 0] 43)) w.heap.size 43 (rdL A l.length c 0 0)) := Lib.hid (Bx.new w _ _ _ _ rfl rfl)
    have HF0 : Hid (takeR many [] (l.drop 0) = f) := Lib.hid (by simpa using hf)
    obtain ⟨M, hM⟩ : ∃ M : Nat, many = M := ⟨many.toNat, by omega⟩
    subst hM
    clear hx hb hf h0
    go_enter Tryd.func12, Tryd.ntmps12
    go_wp2_with fail
    go_loopw [7] (fun v wr => ∃ (i : Nat) (out : List Int), i ≤ l.length ∧ out.length ≤ M ∧ Hid (takeR (M : Int) out (l.drop i) = f) ∧ Hid (Bx wr w.heap.size 43 (rdL A l.length c i 0)) ∧ Hid (wr.ownsRow (w.heap.size + 1) 5 1 v out.length (nums .u8 out)) ∧ Hid (Below w.heap.size w wr)) (fun v wr => M - sliceLen v)
    case atStart => exact ⟨0, [], by omega, by simp, HF0, HG0, Lib.hid ⟨rfl, .inl ⟨rfl, rfl⟩⟩, HB0⟩
    case round =>
      obtain ⟨i, out, hi, hout, HF, HG, HO, HB⟩ := hrel
      obtain ⟨A7, c7, rfl, hr7⟩ := Rd.own HO.out
      have HR7 := Lib.hid hr7
      have hwr : w.heap.size < wr.heap.size := HG.out.lt
      clear hr7
      by_cases hlt : out.length < M
      · obtain ⟨n, l2, e2, hr⟩ : ∃ n l2 e2, readS (l.drop i) 0 1 ((M : Int) - out.length) = (n, l2, e2) := ⟨_, _, _, rfl⟩
        have hltI : (out.length : Int) < (M : Int) := by omega
        have HR := Lib.hid hr
        clear hr
        go_wp2_with (refine wp_loadS rfl 43 _ rfl w.heap.size rfl 43 (rdL A l.length c i 0) _ HG.out Tryd.underlying43 rfl 3 infoRd rfl ?_)
        refine (Read_any A c l i 0 1 ((M : Int) - out.length) wr (HX.out.below HB.out) HBD.out hi n l2 e2 HR.out hlen).mono ?_
        rintro e w5 ⟨at2, rfl, hat2, rfl, hb5⟩
        have HB5 := Lib.hid (below_two HB.out hb5)
        have HG5 := Lib.hid (HG.out.below hb5)
        have HO5 := Lib.hid (own_below HO.out hb5)
        have HR5 := Lib.hid (HR7.out.below hb5)
        clear hb5 HG HO HR7 HB
        obtain ⟨W, hW⟩ : ∃ W, w5.alloc (.cells #[.slice A l.length c, .int .i64 at2, .int .i64 e2] 43) = W := ⟨_, rfl⟩
        have hbl := below_lit w5 (.cells #[.slice A l.length c, .int .i64 at2, .int .i64 e2] 43)
        have HT : Hid (Bx W w5.heap.size 43 (rdL A l.length c at2 e2)) := Lib.hid (by rw [← hW]; exact Bx.new w5 _ _ _ _ rfl rfl)
        rw [hW] at hbl
        have HB6 := Lib.hid (below_two HB5.out hbl)
        have HG6 := Lib.hid (HG5.out.below hbl)
        have HO6 := Lib.hid (own_below HO5.out hbl)
        have HR6 := Lib.hid (HR5.out.below hbl)
        have HWW := Lib.hid hW
        have hT0 : w.heap.size + 1 ≤ w5.heap.size := Nat.le_of_lt_succ (Nat.lt_succ_of_le HG5.out.lt)
        have hTW : w5.heap.size < W.heap.size := HT.out.lt
        have HOT : Hid (∀ k, (Value.slice A7 out.length c7).ownBlock = some k → k < w5.heap.size) := Lib.hid (fun k hk => (HO5.out.lt k hk).2)
        clear hW hbl HB5 HG5 HO5 HR5
        by_cases he : e2 = 0
        · subst he
          have hbnd := readS_bnd HR.out
          by_cases hal : at2 = l.length
          · subst hal
            have hfin := takeR_short (n := n) hltI (by rw [HR.out, List.drop_length])
            rw [HF.out] at hfin
            subst hfin
            have c1 : W.cell? ⟨w5.heap.size, 1, none⟩ = some (.int .i64 l.length) := HT.out.cell 1
            have c2 : W.cell? ⟨w5.heap.size, 2, none⟩ = some (.int .i64 0) := HT.out.cell 2
            go_wp2_with fail
            rw [HWW.out]
            go_wp2
            go_ret2
            exact ⟨_, rfl, ⟨rfl, .inl ⟨rfl, rfl⟩⟩, HB6.out⟩
          · have hal2 : at2 < l.length := by omega
            have halI : (at2 : Int) ≠ (l.length : Int) := by omega
            have ba : ((at2 : Int) == (l.length : Int)) = false := by simpa using halI
            obtain ⟨ad, rfl, e0⟩ := RdI.at_ (HX.out.below HB6.out) hal2
            obtain ⟨y, hy⟩ : ∃ y, l.getD at2 0 = y := ⟨_, rfl⟩
            rw [hy] at e0
            have hdr : l.drop at2 = y :: l.drop (at2 + 1) := by rw [← hy]; exact drop_cons17 hal2
            have hnx := takeR_next (n := n) (c := y) (t := l.drop (at2 + 1)) hltI (by rw [HR.out, hdr])
            rw [HF.out] at hnx
            have HNX := Lib.hid hnx
            have c1 : W.cell? ⟨w5.heap.size, 1, none⟩ = some (.int .i64 at2) := HT.out.cell 1
            have c2 : W.cell? ⟨w5.heap.size, 2, none⟩ = some (.int .i64 0) := HT.out.cell 2
            clear hy hdr hnx
            rw [← HWW.out] at e0
            go_wp2_with (refine wp_storeF rfl 3 _ _ rfl w5.heap.size 1 _ rfl rfl rfl 43 (rdL (some ad) l.length c at2 0) (by rw [HWW.out]; exact HT.out) 3 rfl (by decide) info1i ?_)
            intro w7 hg7 hw7
            rw [HWW.out] at hw7
            have HT7 : Hid (Bx w7 w5.heap.size 43 (rdL (some ad) l.length c ((at2 : Int) + 1) 0)) := Lib.hid hg7
            have HG7 := Lib.hid (HG6.out.grown hw7 (by omega))
            have HB7 := Lib.hid (below_grown HB6.out HB6.out.size hw7 (by omega))
            have HO7 := Lib.hid (own_grown HO6.out hw7 (fun e => Nat.lt_irrefl _ (HOT.out _ e)))
            clear hg7 c1 c2 e0
            go_wp2_with (first
              | (refine wp_loadS rfl 43 _ rfl w5.heap.size rfl 43 (rdL (some ad) l.length c ((at2 : Int) + 1) 0) _ HT7.out Tryd.underlying43 rfl 3 infoRd rfl ?_)
              | (refine wp_storeS rfl 43 _ _ rfl w.heap.size (rdL (some ad) l.length c ((at2 : Int) + 1) 0) rfl rfl 43 _ HG7.out 3 infoRd rfl rfl rfl ?_))
            intro w8 hg8 hw8
            have HG8 : Hid (Bx w8 w.heap.size 43 (rdL (some ad) l.length c ((at2 + 1 : Nat) : Int) 0)) := Lib.hid hg8
            have HB8 := Lib.hid (below_grown HB7.out HB7.out.size hw8 (Nat.le_refl _))
            have HO8 := Lib.hid (own_keep HO7.out hw8 (Nat.lt_succ_self _))
            have HR8 : Hid (RdI w8 .u8 A7 c7 out) := Lib.hid (own_rd HO8.out)
            have hs8 : w.heap.size + 1 ≤ w8.heap.size := HG8.out.lt
            have HW8 := Lib.hid (Below.refl (w.heap.size + 1) w8)
            obtain ⟨m, hmn⟩ : ∃ m : Nat, n = m := ⟨n.toNat, by omega⟩
            subst hmn
            have hm1 : 1 ≤ m ∧ out.length + m ≤ M := by omega
            rw [show ((m : Nat) : Int).toNat = m from Int.toNat_natCast m] at HNX
            clear hg8 hw8 hw7
            by_cases ho0 : out.length = 0
            · have HF8 : Hid (takeR (M : Int) (out ++ List.replicate m y) (l.drop (at2 + 1)) = f) := Lib.hid (by
                rw [HNX.out, List.eq_nil_of_length_eq_zero ho0]
                simp)
              have b0 : ¬ (0 : Int) < (out.length : Int) := by omega
              clear ho0
              go_wp2_with fail
              go_loopw [7, 11] (fun v y9 wi => ∃ k : Nat, y9 = .int .i64 k ∧ k ≤ m ∧ Hid (wi.ownsRow (w.heap.size + 1) 5 1 v (out.length + k) (nums .u8 (out ++ List.replicate k y))) ∧ Hid (Below (w.heap.size + 1) w8 wi)) (fun _ y9 _ => m - (intOf y9).toNat)
              case atStart => exact ⟨0, rfl, by omega, Lib.hid (by simpa using HO8.out), HW8⟩
              case round =>
                obtain ⟨k, rfl, hkm, HOk, HBk⟩ := hrel
                have hs9 := HBk.out.size
                by_cases hk2 : k < m
                · go_wp2_with (refine wp_app1 (w0 := wr) rfl (.tmp 67) (.tmp 69) 22 5 (.int .u8 0) 1 rfl Tryd.underlying22 infoU8 rfl (by decide) (w.heap.size + 1) _ (out.length + k) (nums .u8 (out ++ List.replicate k y)) (.int .u8 y) rfl HOk.out rfl rfl (by omega) (by omega) ((Below.refl _ _).mono (by omega)) ?_)
                  intro v9 w9 ho hb _
                  have HO9 := Lib.hid ho
                  have HB9 := Lib.hid (HBk.out.trans hb)
                  clear ho hb
                  go_wp2
                  go_roundw
                  case rel =>
                    refine ⟨k + 1, by go_num, by omega, Lib.hid ?_, HB9⟩
                    have := HO9.out
                    rw [List.replicate_succ', ← List.append_assoc]
                    simpa [nums, Nat.add_assoc] using this
                  case measure => simp [intOf] <;> omega
                · obtain rfl : k = m := by omega
                  have hfin := HF8.out
                  obtain ⟨A9, c9, rfl, _⟩ := Rd.own HOk.out
                  have HG9 : Hid (Bx wr w.heap.size 43 (rdL (some ad) l.length c ((at2 + 1 : Nat) : Int) 0)) := Lib.hid ((HBk.out.block _ (Nat.lt_succ_self _)).trans HG8.out)
                  have HBB9 := Lib.hid (HB8.out.trans (HBk.out.mono (Nat.le_succ _)))
                  have hlo : (out ++ List.replicate k y).length = out.length + k := by simp
                  have HLO := Lib.hid hlo
                  clear hlo
                  go_wp2
                  go_roundw
                  case rel =>
                    have hlo := HLO.out
                    refine ⟨at2 + 1, out ++ List.replicate k y, by omega, by omega, HF8, HG9, ?_, HBB9⟩
                    rw [hlo]
                    exact HOk
                  case measure =>
                    show M - (out.length + k) < M - out.length
                    omega
            · obtain ⟨K, hK⟩ : ∃ K, out.length = K + 1 := ⟨out.length - 1, by omega⟩
              obtain ⟨bd, had, e0⟩ := RdI.at_ HR8.out (show K < out.length by omega)
              obtain rfl := had
              obtain ⟨z, hz⟩ : ∃ z, out.getD K 0 = z := ⟨_, rfl⟩
              rw [hz] at e0
              have hlast : out.getLast? = some z := by
                rw [List.getLast?_eq_getElem?, hK, Nat.add_sub_cancel, ← hz, List.getD_eq_getElem?_getD, List.getElem?_eq_getElem (by omega)]
                rfl
              rw [hlast] at HNX
              have eK : (out.length : Int) - 1 = (K : Int) := by omega
              have b0 : (0 : Int) < (out.length : Int) := by omega
              have HK := Lib.hid hK
              have HZ := Lib.hid hz
              clear hK hz hlast ho0
              by_cases hzy : z = y
              · subst hzy
                have hfin := HNX.out
                rw [if_pos rfl] at hfin
                subst hfin
                go_wp2
                go_ret2
                exact ⟨_, rfl, ⟨rfl, .inl ⟨rfl, rfl⟩⟩, HB8.out⟩
              · have HF8 : Hid (takeR (M : Int) (out ++ List.replicate m y) (l.drop (at2 + 1)) = f) := Lib.hid (by rw [HNX.out, if_neg (by simpa using hzy)])
                have bzy : (z == y) = false := by simpa using hzy
                go_wp2_with fail
                clear e0 eK
                go_loopw [7, 11] (fun v y9 wi => ∃ k : Nat, y9 = .int .i64 k ∧ k ≤ m ∧ Hid (wi.ownsRow (w.heap.size + 1) 5 1 v (out.length + k) (nums .u8 (out ++ List.replicate k y))) ∧ Hid (Below (w.heap.size + 1) w8 wi)) (fun _ y9 _ => m - (intOf y9).toNat)
                case atStart => exact ⟨0, rfl, by omega, Lib.hid (by simpa using HO8.out), HW8⟩
                case round =>
                  obtain ⟨k, rfl, hkm, HOk, HBk⟩ := hrel
                  have hs9 := HBk.out.size
                  by_cases hk2 : k < m
                  · go_wp2_with (refine wp_app1 (w0 := wr) rfl (.tmp 67) (.tmp 69) 22 5 (.int .u8 0) 1 rfl Tryd.underlying22 infoU8 rfl (by decide) (w.heap.size + 1) _ (out.length + k) (nums .u8 (out ++ List.replicate k y)) (.int .u8 y) rfl HOk.out rfl rfl (by omega) (by omega) ((Below.refl _ _).mono (by omega)) ?_)
                    intro v9 w9 ho hb _
                    have HO9 := Lib.hid ho
                    have HB9 := Lib.hid (HBk.out.trans hb)
                    clear ho hb
                    go_wp2
                    go_roundw
                    case rel =>
                      refine ⟨k + 1, by go_num, by omega, Lib.hid ?_, HB9⟩
                      have := HO9.out
                      rw [List.replicate_succ', ← List.append_assoc]
                      simpa [nums, Nat.add_assoc] using this
                    case measure => simp [intOf] <;> omega
                  · obtain rfl : k = m := by omega
                    have hfin := HF8.out
                    obtain ⟨A9, c9, rfl, _⟩ := Rd.own HOk.out
                    have HG9 : Hid (Bx wr w.heap.size 43 (rdL (some ad) l.length c ((at2 + 1 : Nat) : Int) 0)) := Lib.hid ((HBk.out.block _ (Nat.lt_succ_self _)).trans HG8.out)
                    have HBB9 := Lib.hid (HB8.out.trans (HBk.out.mono (Nat.le_succ _)))
                    have hlo : (out ++ List.replicate k y).length = out.length + k := by simp
                    have HLO := Lib.hid hlo
                    clear hlo
                    go_wp2
                    go_roundw
                    case rel =>
                      have hlo := HLO.out
                      refine ⟨at2 + 1, out ++ List.replicate k y, by omega, by omega, HF8, HG9, ?_, HBB9⟩
                      rw [hlo]
                      exact HOk
                    case measure =>
                      show M - (out.length + k) < M - out.length
                      omega
        · have be : (e2 != 0) = true := by simpa using he
          have hfin := takeR_bad hltI HR.out he
          rw [HF.out] at hfin
          subst hfin
          go_wp2_with fail
          rw [HWW.out]
          have c2 : W.cell? ⟨w5.heap.size, 2, none⟩ = some (.int .i64 e2) := HT.out.cell 2
          go_quiet (fail)
          go_wp2
          go_ret2
          exact ⟨_, rfl, ⟨rfl, .inl ⟨rfl, rfl⟩⟩, below_two HB6.out (below_drewN _ _)⟩
      · have hfin := takeR_done (l := l.drop i) (show ¬ (out.length : Int) < (M : Int) by omega)
        rw [HF.out] at hfin
        have c1 : wr.cell? ⟨w.heap.size, 1, none⟩ = some (.int .i64 i) := HG.out.cell 1
        by_cases hil : i < l.length
        · rw [if_neg (fun h => by have := congrArg List.length h; simp at this; omega)] at hfin
          subst hfin
          go_wp2
          go_ret2
          exact ⟨_, rfl, ⟨rfl, .inl ⟨rfl, rfl⟩⟩, HB.out⟩
        · rw [if_pos (List.drop_eq_nil_of_le (by omega))] at hfin
          subst hfin
          go_wp2
          go_ret2
          exact ⟨_, rfl, own_mono HO.out (Nat.le_succ _), HB.out⟩
end Go.Proofs.YticebanhccgglaaDoor
