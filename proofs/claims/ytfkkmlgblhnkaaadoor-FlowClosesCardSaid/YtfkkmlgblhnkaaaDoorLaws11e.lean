
/- The walk of FlowCloses. -/
import Derived.Test.YtfkkmlgblhnkaaaDoorPlainS11
namespace Go.Proofs.YtfkkmlgblhnkaaaDoor
open Go.RowKit

def bEL : ByteArray := ⟨#[69, 76, 83, 69]⟩
def bUN : ByteArray := ⟨#[85, 78, 84, 73, 76]⟩
def bWH : ByteArray := ⟨#[87, 72, 73, 76, 69]⟩
def bRE : ByteArray := ⟨#[82, 69, 80, 69, 65, 84]⟩
theorem opens_snoc : ∀ (l : List Int) (k : Int), opens (l ++ [k]) = opens l ++ opK k
  | [], k => by simp [opens]
  | x :: l, k => by
    show opK x ++ opens (l ++ [k]) = (opK x ++ opens l) ++ opK k
    rw [opens_snoc l k, List.append_assoc]
theorem closes_snoc : ∀ (l : List Int) (k : Int), closes (l ++ [k]) = clK k :: closes l
  | [], k => rfl
  | x :: l, k => by
    show closes (l ++ [k]) ++ [clK x] = clK k :: (closes l ++ [clK x])
    rw [closes_snoc l k]
    rfl
theorem cells_snoc : ∀ (l : List Int) (k : Int), cells (l ++ [k]) = cells l + ceK k
  | [], k => by simp [cells]
  | x :: l, k => by
    show ceK x + cells (l ++ [k]) = (ceK x + cells l) + ceK k
    rw [cells_snoc l k, Nat.add_assoc]
theorem closes_len : ∀ l : List Int, (closes l).length = l.length
  | [] => rfl
  | x :: l => by
    show (closes l ++ [clK x]).length = _
    rw [List.length_append, closes_len l]
    rfl
theorem opK_len (k : Int) : (opK k).length ≤ 2 := by
  unfold opK
  split
  · decide
  split
  · decide
  split
  · decide
  split <;> decide
theorem opens_len : ∀ l : List Int, (opens l).length ≤ 2 * l.length
  | [] => Nat.le_refl _
  | x :: l => by
    have h1 := opK_len x
    have h2 := opens_len l
    show (opK x ++ opens l).length ≤ _
    rw [List.length_append, List.length_cons]
    omega
/-- The words of this law. -/
def lawOp (op : Int) : Prop := op = 98 ∨ op = 99 ∨ op = 100 ∨ op = 101 ∨ op = 103 ∨ op = 104 ∨ op = 105 ∨ op = 106 ∨ op = 107
theorem opK_law (k : Int) : ∀ x ∈ opK k, lawOp x := by
  unfold opK
  split
  · simp [lawOp]
  split
  · simp [lawOp]
  split
  · simp [lawOp]
  split <;> simp [lawOp]
theorem clK_law (k : Int) : lawOp (clK k) := by
  unfold clK
  split
  · simp [lawOp]
  split
  · simp [lawOp]
  split
  · simp [lawOp]
  split <;> simp [lawOp]
theorem opens_law : ∀ l : List Int, ∀ x ∈ opens l, lawOp x
  | [], x, h => by simp [opens] at h
  | k :: l, x, h => (List.mem_append.1 h).elim (opK_law k x) (opens_law l x)
theorem closes_law : ∀ l : List Int, ∀ x ∈ closes l, lawOp x
  | [], x, h => by simp [closes] at h
  | k :: l, x, h => (List.mem_append.1 h).elim (closes_law l x) (fun h => by rw [List.mem_singleton.1 h]; exact clK_law k)
theorem law_names : ∀ l : List Int, (∀ x ∈ l, lawOp x) → namesOf (l.map nameR) l
  | [], _ => names_nil
  | x :: l, h => by
    have hx := h x (List.mem_cons_self ..)
    have key : findR (foldB (nameR x)) = x ∧ (nameR x).size ≤ 100 := by
      rcases hx with rfl | rfl | rfl | rfl | rfl | rfl | rfl | rfl | rfl <;> decide +kernel
    exact names_cons key.1 key.2 (law_names l (fun y hy => h y (List.mem_cons_of_mem _ hy)))
/-- The strings of words. -/
def strO (l : List Int) : List Value := strs (l.map nameR)
theorem strO_app (a b : List Int) : strO (a ++ b) = strO a ++ strO b := by simp [strO, strs]
theorem nm_98 : nameR 98 = bIF := by decide +kernel
theorem nm_99 : nameR 99 = bEL := by decide +kernel
theorem nm_100 : nameR 100 = bTH := by decide +kernel
theorem nm_101 : nameR 101 = bB := by decide +kernel
theorem nm_103 : nameR 103 = bUN := by decide +kernel
theorem nm_104 : nameR 104 = bWH := by decide +kernel
theorem nm_105 : nameR 105 = bRE := by decide +kernel
theorem nm_106 : nameR 106 = bDO := by decide +kernel
theorem nm_107 : nameR 107 = bLO := by decide +kernel
theorem rd_keepG {w w' : World} {ob : Option Nat} {A : Option Addr} {n c size : Nat} {cs : List Value} (h : Rd w A n c size cs) (hg : w.grownBy w' ob) (hne : ∀ ad, A = some ad → ob ≠ some ad.block) : Rd w' A n c size cs := by
  cases ob with
  | none => exact h.below (below_of_grown hg)
  | some g => exact rd_apart h hg (fun _ ad e e2 => hne ad e (by rw [e2]))
/-- A state of a control stack alone. -/
def ctlP (l : List Int) : Ps := ⟨[], [], [], l, [], [], [], 0, 0, 0, 0, 0, 0, false, false⟩
def ctlA (A : Option Addr) (c : Nat) : Ad := ⟨none, 0, none, 0, none, 0, A, c, none, 0, none, 0, none, 0⟩
theorem rdP_ctl {w : World} {A : Option Addr} {c : Nat} {l : List Int} (h : RdI w .i64 A c l) : RdP w (ctlA A c) (ctlP l) := ⟨rd_nil w 1, by simp [ctlP, isB], rd_nil w 1, rd_nil w 2, h, rd_nil w 4, rd_nil w 2, rd_nil w 1, by simp [ctlP, isB]⟩

set_option maxRecDepth 100000 in
set_option maxHeartbeats 8000000 in
theorem FlowCloses_walk (A0 : Option Addr) (c0 : Nat) (ctl : List Int) (A1 : Option Addr) (c1 : Nat) (l : List Int) (w : World) (hx0 : RdI w .i64 A0 c0 ctl) (hx : RdI w .u8 A1 c1 l) (hb : isB l) (ht : Tab w) :
    Calls Tryd.prog 5 #[.slice A0 ctl.length c0, .slice A1 l.length c1] w fun e w' => e = .returned (.bool true) ∧ Below w.heap.size w w' := by
  have HX0 := Lib.hid hx0
  have HX := Lib.hid hx
  have HLB := Lib.hid hb
  have HT := Lib.hid ht
  clear hx0 hx hb ht
  go_enter Tryd.func5, Tryd.ntmps5
  go_wp2_with fail
  refine (awake_any w HT.out).mono ?_
  rintro e w1 ⟨rfl, hb1⟩
  have HB1 := Lib.hid hb1
  clear hb1
  by_cases h60 : 60 < ctl.length
  · go_wp2
    go_ret
    exact ⟨rfl, HB1.out⟩
  by_cases h8 : 8 < l.length
  · go_wp2
    go_ret
    exact ⟨rfl, HB1.out⟩
  obtain ⟨n0, hn0⟩ : ∃ n, ctl.length = n := ⟨_, rfl⟩
  obtain ⟨n, hn⟩ : ∃ n, l.length = n := ⟨_, rfl⟩
  obtain ⟨ks, hks⟩ : ∃ ks, l.map (fun x => x % 5) = ks := ⟨_, rfl⟩
  have hkl : ks.length = n := by rw [← hks, List.length_map, hn]
  rw [hn0] at h60 ⊢
  rw [hn] at h8 ⊢
  have HN0 := Lib.hid hn0
  have HN := Lib.hid hn
  have HKS := Lib.hid hks
  have HKL := Lib.hid hkl
  clear hn0 hn hks hkl
  have HO0 : Hid (w1.ownsRow w1.heap.size 9 1 (.slice none 0 0) (opens (ks.take 0)).length (strO (opens (ks.take 0)))) := Lib.hid ⟨rfl, .inl ⟨rfl, rfl⟩⟩
  have HE0 : Hid (Rd w1 none 0 0 1 (strO (closes (ks.take 0)))) := Lib.hid (rd_nil w1 1)
  have HD0 : Hid (∀ ad : Addr, (none : Option Addr) = some ad → (Value.slice none 0 0).ownBlock ≠ some ad.block) := Lib.hid (fun ad e => by cases e)
  have HBB := Lib.hid (Below.refl w1.heap.size w1)
  go_wp2_with fail
  go_loopw [6, 7, 8, 9] (fun v6 v7 v8 y wr => ∃ (j : Nat) (A7 : Option Addr) (c7 : Nat), y = .int .i64 j ∧ j ≤ n ∧ v8 = .int .i64 (cells (ks.take j) : Int) ∧ v7 = .slice A7 j c7 ∧ Hid (wr.ownsRow w1.heap.size 9 1 v6 (opens (ks.take j)).length (strO (opens (ks.take j)))) ∧ Hid (Rd wr A7 j c7 1 (strO (closes (ks.take j)))) ∧ Hid (∀ ad : Addr, A7 = some ad → v6.ownBlock ≠ some ad.block) ∧ Hid (Below w1.heap.size w1 wr)) (fun _ _ _ y _ => n - (intOf y).toNat)
  case atStart => exact ⟨0, none, 0, rfl, by omega, by simp [cells], rfl, HO0, HE0, HD0, HBB⟩
  case round =>
    obtain ⟨j, A7, c7, rfl, hj, rfl, rfl, HO, HE, HD, HBr⟩ := hrel
    by_cases hlt : j < n
    · have HW := Lib.hid (below_two HB1.out (HBr.out.mono (Nat.le_refl _)))
      obtain ⟨ad, rfl, hcx⟩ := RdI.at_ (HX.out.below HW.out) (show j < l.length by rw [HN.out]; exact hlt)
      have hxb := isB_getD HLB.out j
      obtain ⟨x, hxk⟩ : ∃ x, l.getD j 0 = x := ⟨_, rfl⟩
      rw [hxk] at hcx hxb
      obtain ⟨r, hr⟩ : ∃ r : Int, x.tmod 5 = r := ⟨_, rfl⟩
      have hr2 : x % 5 = r := by rw [← hr, Int.tmod_eq_emod_of_nonneg hxb.1]
      have hr01 : 0 ≤ r ∧ r < 5 := by omega
      have htk : ks.take (j + 1) = ks.take j ++ [r] := by
        have hjk : j < ks.length := by rw [HKL.out]; exact hlt
        rw [List.take_succ_eq_append_getElem hjk]
        congr 1
        have : ks[j] = x % 5 := by
          have h1 : (l.map (fun x => x % 5))[j]? = some (x % 5) := by
            rw [List.getElem?_map, List.getElem?_eq_getElem (show j < l.length by rw [HN.out]; exact hlt)]
            rw [List.getD_eq_getElem?_getD, List.getElem?_eq_getElem (show j < l.length by rw [HN.out]; exact hlt)] at hxk
            simp at hxk
            simp [hxk]
          rw [HKS.out, List.getElem?_eq_getElem hjk] at h1
          exact Option.some.inj h1
        rw [this, hr2]
      have HTK := Lib.hid htk
      have hnb := opens_len (ks.take j)
      have hnc := closes_len (ks.take j)
      rw [List.length_take, HKL.out] at hnb hnc
      have hce := cells_le (ks.take j)
      rw [List.length_take, HKL.out] at hce
      obtain ⟨nb, hnbe⟩ : ∃ nb, (opens (ks.take j)).length = nb := ⟨_, rfl⟩
      obtain ⟨nc, hnce⟩ : ∃ nb, cells (ks.take j) = nb := ⟨_, rfl⟩
      rw [hnbe] at hnb HO
      rw [hnce] at hce ⊢
      have HNB := Lib.hid hnbe
      have HNC := Lib.hid hnce
      clear hxk hr2 htk hnc hnbe hnce
      have hrr : r = 0 ∨ r = 1 ∨ r = 2 ∨ r = 3 ∨ r = 4 := by omega
      rcases hrr with rfl | rfl | rfl | rfl | rfl
      · have hs1 : strO [98] = [.string bIF] := by simp [strO, strs, nm_98]
        have hs2 : strO [100] = [.string bTH] := by simp [strO, strs, nm_100]
        have HDk : Hid (Rd (wr.alloc (.cells #[.string bIF] 9)) (some ⟨wr.heap.size, 0, none⟩) 1 1 1 (strO [98])) := Lib.hid (by rw [hs1]; exact rd_alloc wr [.string bIF] #[.string bIF] 9 (0, 0) 1 1 1 rfl rfl (by decide) (by decide))
        have HO1 := Lib.hid (own_below HO.out (below_lit wr (.cells #[.string bIF] 9)))
        have HBx := Lib.hid (HBr.out.trans ((below_lit wr (.cells #[.string bIF] 9)).mono HBr.out.size))
        have HE1 := Lib.hid (HE.out.below (below_lit wr (.cells #[.string bIF] 9)))
        go_wp2_with (at_builtin; refine wp_app (w0 := w1) rfl (.tmp 43) (.tmp 44) 36 9 (.string ByteArray.empty) 1 16 rfl Tryd.underlying36 infoStr rfl (by decide) (by decide) w1.heap.size _ nb (strO (opens (ks.take j))) rfl HO1.out _ 1 1 (strO [98]) rfl HDk.out (strs_one _) (by omega) (by have := HBr.out.size; simp; omega) HBx.out ?_)
        intro v3 w3 ho hb3 hg3
        have HO3 : Hid (w3.ownsRow w1.heap.size 9 1 v3 (opens (ks.take (j + 1))).length (strO (opens (ks.take (j + 1))))) := Lib.hid (by
          rw [HTK.out, opens_snoc, strO_app, List.length_append, HNB.out]
          exact ho)
        have HB3 := Lib.hid hb3
        have HE3 := Lib.hid (rd_keepG HE1.out hg3 HD.out)
        have HV3 : Hid (∀ b, v3.ownBlock = some b → b < w3.heap.size) := Lib.hid (fun b hb => (HO3.out.lt b hb).2)
        clear ho hb3 hg3 HDk HO1 HBx HE1
        have HL : Hid ((w3.alloc (.cells #[.string bTH] 9)).ownsRow w3.heap.size 9 1 (.slice (some ⟨w3.heap.size, 0, none⟩) 1 1) 1 (strO [100])) := Lib.hid (by rw [hs2]; exact ⟨rfl, .inr ⟨_, 1, #[.string bTH], rfl, Nat.le_refl _, heap_alloc_new w3 _, Nat.le_refl _, by decide, rfl, rfl⟩⟩)
        have HRM := Lib.hid (HE3.out.below (below_lit w3 (.cells #[.string bTH] 9)))
        go_wp2_with (at_builtin; refine wp_app (w0 := w3) rfl (.tmp 46) (.tmp 47) 36 9 (.string ByteArray.empty) 1 16 rfl Tryd.underlying36 infoStr rfl (by decide) (by decide) w3.heap.size _ 1 (strO [100]) rfl HL.out A7 j c7 (strO (closes (ks.take j))) rfl HRM.out (strs_one _) (by omega) (by simp) (below_lit w3 _) ?_)
        intro v4 w4 ho4 hb4 _
        obtain ⟨A8, c8, rfl, hr8⟩ := Rd.own ho4
        have HE4 : Hid (Rd w4 A8 (j + 1) c8 1 (strO (closes (ks.take (j + 1))))) := Lib.hid (by
          rw [HTK.out, closes_snoc, show strO (clK 0 :: closes (ks.take j)) = strO [100] ++ strO (closes (ks.take j)) from strO_app [100] _, hs2, Nat.add_comm j 1]
          exact hr8)
        have HD4 : Hid (∀ ad : Addr, A8 = some ad → v3.ownBlock ≠ some ad.block) := Lib.hid (fun ad e e2 => by
          have h2 := HV3.out _ e2
          have := own_block_ge ho4 (by omega) ad e
          omega)
        have HO4 := Lib.hid (own_below HO3.out hb4)
        have HB4 := Lib.hid (HB3.out.trans (hb4.mono HB3.out.size))
        have HC4 : Hid (cells (ks.take (j + 1)) = nc + 2) := Lib.hid (by rw [HTK.out, cells_snoc, HNC.out]; rfl)
        clear ho4 hb4 hr8 HL HRM hs1 hs2
        rw [show 1 + j = j + 1 by omega]
        go_wp2
        go_roundw
        case rel => exact ⟨j + 1, A8, c8, by go_num, by omega, by rw [HC4.out]; go_num, by first | rfl | (congr 1; omega), HO4, HE4, HD4, HB4⟩
        case measure => simp [intOf] <;> omega
      · have hs1 : strO [98, 99] = [.string bIF, .string bEL] := by simp [strO, strs, nm_98, nm_99]
        have hs2 : strO [100] = [.string bTH] := by simp [strO, strs, nm_100]
        have HDk : Hid (Rd (wr.alloc (.cells #[.string bIF, .string bEL] 9)) (some ⟨wr.heap.size, 0, none⟩) 2 2 1 (strO [98, 99])) := Lib.hid (by rw [hs1]; exact rd_alloc wr [.string bIF, .string bEL] #[.string bIF, .string bEL] 9 (0, 0) 2 2 1 rfl rfl (by decide) (by decide))
        have HO1 := Lib.hid (own_below HO.out (below_lit wr (.cells #[.string bIF, .string bEL] 9)))
        have HBx := Lib.hid (HBr.out.trans ((below_lit wr (.cells #[.string bIF, .string bEL] 9)).mono HBr.out.size))
        have HE1 := Lib.hid (HE.out.below (below_lit wr (.cells #[.string bIF, .string bEL] 9)))
        go_wp2_with (at_builtin; refine wp_app (w0 := w1) rfl (.tmp 53) (.tmp 54) 36 9 (.string ByteArray.empty) 1 16 rfl Tryd.underlying36 infoStr rfl (by decide) (by decide) w1.heap.size _ nb (strO (opens (ks.take j))) rfl HO1.out _ 2 2 (strO [98, 99]) rfl HDk.out (strs_one _) (by omega) (by have := HBr.out.size; simp; omega) HBx.out ?_)
        intro v3 w3 ho hb3 hg3
        have HO3 : Hid (w3.ownsRow w1.heap.size 9 1 v3 (opens (ks.take (j + 1))).length (strO (opens (ks.take (j + 1))))) := Lib.hid (by
          rw [HTK.out, opens_snoc, strO_app, List.length_append, HNB.out]
          exact ho)
        have HB3 := Lib.hid hb3
        have HE3 := Lib.hid (rd_keepG HE1.out hg3 HD.out)
        have HV3 : Hid (∀ b, v3.ownBlock = some b → b < w3.heap.size) := Lib.hid (fun b hb => (HO3.out.lt b hb).2)
        clear ho hb3 hg3 HDk HO1 HBx HE1
        have HL : Hid ((w3.alloc (.cells #[.string bTH] 9)).ownsRow w3.heap.size 9 1 (.slice (some ⟨w3.heap.size, 0, none⟩) 1 1) 1 (strO [100])) := Lib.hid (by rw [hs2]; exact ⟨rfl, .inr ⟨_, 1, #[.string bTH], rfl, Nat.le_refl _, heap_alloc_new w3 _, Nat.le_refl _, by decide, rfl, rfl⟩⟩)
        have HRM := Lib.hid (HE3.out.below (below_lit w3 (.cells #[.string bTH] 9)))
        go_wp2_with (at_builtin; refine wp_app (w0 := w3) rfl (.tmp 56) (.tmp 57) 36 9 (.string ByteArray.empty) 1 16 rfl Tryd.underlying36 infoStr rfl (by decide) (by decide) w3.heap.size _ 1 (strO [100]) rfl HL.out A7 j c7 (strO (closes (ks.take j))) rfl HRM.out (strs_one _) (by omega) (by simp) (below_lit w3 _) ?_)
        intro v4 w4 ho4 hb4 _
        obtain ⟨A8, c8, rfl, hr8⟩ := Rd.own ho4
        have HE4 : Hid (Rd w4 A8 (j + 1) c8 1 (strO (closes (ks.take (j + 1))))) := Lib.hid (by
          rw [HTK.out, closes_snoc, show strO (clK 1 :: closes (ks.take j)) = strO [100] ++ strO (closes (ks.take j)) from strO_app [100] _, hs2, Nat.add_comm j 1]
          exact hr8)
        have HD4 : Hid (∀ ad : Addr, A8 = some ad → v3.ownBlock ≠ some ad.block) := Lib.hid (fun ad e e2 => by
          have h2 := HV3.out _ e2
          have := own_block_ge ho4 (by omega) ad e
          omega)
        have HO4 := Lib.hid (own_below HO3.out hb4)
        have HB4 := Lib.hid (HB3.out.trans (hb4.mono HB3.out.size))
        have HC4 : Hid (cells (ks.take (j + 1)) = nc + 4) := Lib.hid (by rw [HTK.out, cells_snoc, HNC.out]; rfl)
        clear ho4 hb4 hr8 HL HRM hs1 hs2
        rw [show 1 + j = j + 1 by omega]
        go_wp2
        go_roundw
        case rel => exact ⟨j + 1, A8, c8, by go_num, by omega, by rw [HC4.out]; go_num, by first | rfl | (congr 1; omega), HO4, HE4, HD4, HB4⟩
        case measure => simp [intOf] <;> omega
      · have hs1 : strO [101] = [.string bB] := by simp [strO, strs, nm_101]
        have hs2 : strO [103] = [.string bUN] := by simp [strO, strs, nm_103]
        have HDk : Hid (Rd (wr.alloc (.cells #[.string bB] 9)) (some ⟨wr.heap.size, 0, none⟩) 1 1 1 (strO [101])) := Lib.hid (by rw [hs1]; exact rd_alloc wr [.string bB] #[.string bB] 9 (0, 0) 1 1 1 rfl rfl (by decide) (by decide))
        have HO1 := Lib.hid (own_below HO.out (below_lit wr (.cells #[.string bB] 9)))
        have HBx := Lib.hid (HBr.out.trans ((below_lit wr (.cells #[.string bB] 9)).mono HBr.out.size))
        have HE1 := Lib.hid (HE.out.below (below_lit wr (.cells #[.string bB] 9)))
        go_wp2_with (at_builtin; refine wp_app (w0 := w1) rfl (.tmp 63) (.tmp 64) 36 9 (.string ByteArray.empty) 1 16 rfl Tryd.underlying36 infoStr rfl (by decide) (by decide) w1.heap.size _ nb (strO (opens (ks.take j))) rfl HO1.out _ 1 1 (strO [101]) rfl HDk.out (strs_one _) (by omega) (by have := HBr.out.size; simp; omega) HBx.out ?_)
        intro v3 w3 ho hb3 hg3
        have HO3 : Hid (w3.ownsRow w1.heap.size 9 1 v3 (opens (ks.take (j + 1))).length (strO (opens (ks.take (j + 1))))) := Lib.hid (by
          rw [HTK.out, opens_snoc, strO_app, List.length_append, HNB.out]
          exact ho)
        have HB3 := Lib.hid hb3
        have HE3 := Lib.hid (rd_keepG HE1.out hg3 HD.out)
        have HV3 : Hid (∀ b, v3.ownBlock = some b → b < w3.heap.size) := Lib.hid (fun b hb => (HO3.out.lt b hb).2)
        clear ho hb3 hg3 HDk HO1 HBx HE1
        have HL : Hid ((w3.alloc (.cells #[.string bUN] 9)).ownsRow w3.heap.size 9 1 (.slice (some ⟨w3.heap.size, 0, none⟩) 1 1) 1 (strO [103])) := Lib.hid (by rw [hs2]; exact ⟨rfl, .inr ⟨_, 1, #[.string bUN], rfl, Nat.le_refl _, heap_alloc_new w3 _, Nat.le_refl _, by decide, rfl, rfl⟩⟩)
        have HRM := Lib.hid (HE3.out.below (below_lit w3 (.cells #[.string bUN] 9)))
        go_wp2_with (at_builtin; refine wp_app (w0 := w3) rfl (.tmp 66) (.tmp 67) 36 9 (.string ByteArray.empty) 1 16 rfl Tryd.underlying36 infoStr rfl (by decide) (by decide) w3.heap.size _ 1 (strO [103]) rfl HL.out A7 j c7 (strO (closes (ks.take j))) rfl HRM.out (strs_one _) (by omega) (by simp) (below_lit w3 _) ?_)
        intro v4 w4 ho4 hb4 _
        obtain ⟨A8, c8, rfl, hr8⟩ := Rd.own ho4
        have HE4 : Hid (Rd w4 A8 (j + 1) c8 1 (strO (closes (ks.take (j + 1))))) := Lib.hid (by
          rw [HTK.out, closes_snoc, show strO (clK 2 :: closes (ks.take j)) = strO [103] ++ strO (closes (ks.take j)) from strO_app [103] _, hs2, Nat.add_comm j 1]
          exact hr8)
        have HD4 : Hid (∀ ad : Addr, A8 = some ad → v3.ownBlock ≠ some ad.block) := Lib.hid (fun ad e e2 => by
          have h2 := HV3.out _ e2
          have := own_block_ge ho4 (by omega) ad e
          omega)
        have HO4 := Lib.hid (own_below HO3.out hb4)
        have HB4 := Lib.hid (HB3.out.trans (hb4.mono HB3.out.size))
        have HC4 : Hid (cells (ks.take (j + 1)) = nc + 2) := Lib.hid (by rw [HTK.out, cells_snoc, HNC.out]; rfl)
        clear ho4 hb4 hr8 HL HRM hs1 hs2
        rw [show 1 + j = j + 1 by omega]
        go_wp2
        go_roundw
        case rel => exact ⟨j + 1, A8, c8, by go_num, by omega, by rw [HC4.out]; go_num, by first | rfl | (congr 1; omega), HO4, HE4, HD4, HB4⟩
        case measure => simp [intOf] <;> omega
      · have hs1 : strO [101, 104] = [.string bB, .string bWH] := by simp [strO, strs, nm_101, nm_104]
        have hs2 : strO [105] = [.string bRE] := by simp [strO, strs, nm_105]
        have HDk : Hid (Rd (wr.alloc (.cells #[.string bB, .string bWH] 9)) (some ⟨wr.heap.size, 0, none⟩) 2 2 1 (strO [101, 104])) := Lib.hid (by rw [hs1]; exact rd_alloc wr [.string bB, .string bWH] #[.string bB, .string bWH] 9 (0, 0) 2 2 1 rfl rfl (by decide) (by decide))
        have HO1 := Lib.hid (own_below HO.out (below_lit wr (.cells #[.string bB, .string bWH] 9)))
        have HBx := Lib.hid (HBr.out.trans ((below_lit wr (.cells #[.string bB, .string bWH] 9)).mono HBr.out.size))
        have HE1 := Lib.hid (HE.out.below (below_lit wr (.cells #[.string bB, .string bWH] 9)))
        go_wp2_with (at_builtin; refine wp_app (w0 := w1) rfl (.tmp 73) (.tmp 74) 36 9 (.string ByteArray.empty) 1 16 rfl Tryd.underlying36 infoStr rfl (by decide) (by decide) w1.heap.size _ nb (strO (opens (ks.take j))) rfl HO1.out _ 2 2 (strO [101, 104]) rfl HDk.out (strs_one _) (by omega) (by have := HBr.out.size; simp; omega) HBx.out ?_)
        intro v3 w3 ho hb3 hg3
        have HO3 : Hid (w3.ownsRow w1.heap.size 9 1 v3 (opens (ks.take (j + 1))).length (strO (opens (ks.take (j + 1))))) := Lib.hid (by
          rw [HTK.out, opens_snoc, strO_app, List.length_append, HNB.out]
          exact ho)
        have HB3 := Lib.hid hb3
        have HE3 := Lib.hid (rd_keepG HE1.out hg3 HD.out)
        have HV3 : Hid (∀ b, v3.ownBlock = some b → b < w3.heap.size) := Lib.hid (fun b hb => (HO3.out.lt b hb).2)
        clear ho hb3 hg3 HDk HO1 HBx HE1
        have HL : Hid ((w3.alloc (.cells #[.string bRE] 9)).ownsRow w3.heap.size 9 1 (.slice (some ⟨w3.heap.size, 0, none⟩) 1 1) 1 (strO [105])) := Lib.hid (by rw [hs2]; exact ⟨rfl, .inr ⟨_, 1, #[.string bRE], rfl, Nat.le_refl _, heap_alloc_new w3 _, Nat.le_refl _, by decide, rfl, rfl⟩⟩)
        have HRM := Lib.hid (HE3.out.below (below_lit w3 (.cells #[.string bRE] 9)))
        go_wp2_with (at_builtin; refine wp_app (w0 := w3) rfl (.tmp 76) (.tmp 77) 36 9 (.string ByteArray.empty) 1 16 rfl Tryd.underlying36 infoStr rfl (by decide) (by decide) w3.heap.size _ 1 (strO [105]) rfl HL.out A7 j c7 (strO (closes (ks.take j))) rfl HRM.out (strs_one _) (by omega) (by simp) (below_lit w3 _) ?_)
        intro v4 w4 ho4 hb4 _
        obtain ⟨A8, c8, rfl, hr8⟩ := Rd.own ho4
        have HE4 : Hid (Rd w4 A8 (j + 1) c8 1 (strO (closes (ks.take (j + 1))))) := Lib.hid (by
          rw [HTK.out, closes_snoc, show strO (clK 3 :: closes (ks.take j)) = strO [105] ++ strO (closes (ks.take j)) from strO_app [105] _, hs2, Nat.add_comm j 1]
          exact hr8)
        have HD4 : Hid (∀ ad : Addr, A8 = some ad → v3.ownBlock ≠ some ad.block) := Lib.hid (fun ad e e2 => by
          have h2 := HV3.out _ e2
          have := own_block_ge ho4 (by omega) ad e
          omega)
        have HO4 := Lib.hid (own_below HO3.out hb4)
        have HB4 := Lib.hid (HB3.out.trans (hb4.mono HB3.out.size))
        have HC4 : Hid (cells (ks.take (j + 1)) = nc + 4) := Lib.hid (by rw [HTK.out, cells_snoc, HNC.out]; rfl)
        clear ho4 hb4 hr8 HL HRM hs1 hs2
        rw [show 1 + j = j + 1 by omega]
        go_wp2
        go_roundw
        case rel => exact ⟨j + 1, A8, c8, by go_num, by omega, by rw [HC4.out]; go_num, by first | rfl | (congr 1; omega), HO4, HE4, HD4, HB4⟩
        case measure => simp [intOf] <;> omega
      · have hs1 : strO [106] = [.string bDO] := by simp [strO, strs, nm_106]
        have hs2 : strO [107] = [.string bLO] := by simp [strO, strs, nm_107]
        have HDk : Hid (Rd (wr.alloc (.cells #[.string bDO] 9)) (some ⟨wr.heap.size, 0, none⟩) 1 1 1 (strO [106])) := Lib.hid (by rw [hs1]; exact rd_alloc wr [.string bDO] #[.string bDO] 9 (0, 0) 1 1 1 rfl rfl (by decide) (by decide))
        have HO1 := Lib.hid (own_below HO.out (below_lit wr (.cells #[.string bDO] 9)))
        have HBx := Lib.hid (HBr.out.trans ((below_lit wr (.cells #[.string bDO] 9)).mono HBr.out.size))
        have HE1 := Lib.hid (HE.out.below (below_lit wr (.cells #[.string bDO] 9)))
        go_wp2_with (at_builtin; refine wp_app (w0 := w1) rfl (.tmp 33) (.tmp 34) 36 9 (.string ByteArray.empty) 1 16 rfl Tryd.underlying36 infoStr rfl (by decide) (by decide) w1.heap.size _ nb (strO (opens (ks.take j))) rfl HO1.out _ 1 1 (strO [106]) rfl HDk.out (strs_one _) (by omega) (by have := HBr.out.size; simp; omega) HBx.out ?_)
        intro v3 w3 ho hb3 hg3
        have HO3 : Hid (w3.ownsRow w1.heap.size 9 1 v3 (opens (ks.take (j + 1))).length (strO (opens (ks.take (j + 1))))) := Lib.hid (by
          rw [HTK.out, opens_snoc, strO_app, List.length_append, HNB.out]
          exact ho)
        have HB3 := Lib.hid hb3
        have HE3 := Lib.hid (rd_keepG HE1.out hg3 HD.out)
        have HV3 : Hid (∀ b, v3.ownBlock = some b → b < w3.heap.size) := Lib.hid (fun b hb => (HO3.out.lt b hb).2)
        clear ho hb3 hg3 HDk HO1 HBx HE1
        have HL : Hid ((w3.alloc (.cells #[.string bLO] 9)).ownsRow w3.heap.size 9 1 (.slice (some ⟨w3.heap.size, 0, none⟩) 1 1) 1 (strO [107])) := Lib.hid (by rw [hs2]; exact ⟨rfl, .inr ⟨_, 1, #[.string bLO], rfl, Nat.le_refl _, heap_alloc_new w3 _, Nat.le_refl _, by decide, rfl, rfl⟩⟩)
        have HRM := Lib.hid (HE3.out.below (below_lit w3 (.cells #[.string bLO] 9)))
        go_wp2_with (at_builtin; refine wp_app (w0 := w3) rfl (.tmp 36) (.tmp 37) 36 9 (.string ByteArray.empty) 1 16 rfl Tryd.underlying36 infoStr rfl (by decide) (by decide) w3.heap.size _ 1 (strO [107]) rfl HL.out A7 j c7 (strO (closes (ks.take j))) rfl HRM.out (strs_one _) (by omega) (by simp) (below_lit w3 _) ?_)
        intro v4 w4 ho4 hb4 _
        obtain ⟨A8, c8, rfl, hr8⟩ := Rd.own ho4
        have HE4 : Hid (Rd w4 A8 (j + 1) c8 1 (strO (closes (ks.take (j + 1))))) := Lib.hid (by
          rw [HTK.out, closes_snoc, show strO (clK 4 :: closes (ks.take j)) = strO [107] ++ strO (closes (ks.take j)) from strO_app [107] _, hs2, Nat.add_comm j 1]
          exact hr8)
        have HD4 : Hid (∀ ad : Addr, A8 = some ad → v3.ownBlock ≠ some ad.block) := Lib.hid (fun ad e e2 => by
          have h2 := HV3.out _ e2
          have := own_block_ge ho4 (by omega) ad e
          omega)
        have HO4 := Lib.hid (own_below HO3.out hb4)
        have HB4 := Lib.hid (HB3.out.trans (hb4.mono HB3.out.size))
        have HC4 : Hid (cells (ks.take (j + 1)) = nc + 4) := Lib.hid (by rw [HTK.out, cells_snoc, HNC.out]; rfl)
        clear ho4 hb4 hr8 HL HRM hs1 hs2
        rw [show 1 + j = j + 1 by omega]
        go_wp2
        go_roundw
        case rel => exact ⟨j + 1, A8, c8, by go_num, by omega, by rw [HC4.out]; go_num, by first | rfl | (congr 1; omega), HO4, HE4, HD4, HB4⟩
        case measure => simp [intOf] <;> omega
    · have hjn : j = n := by omega
      subst hjn
      have hkk : ks.take j = ks := List.take_of_length_le (by rw [HKL.out]; exact Nat.le_refl _)
      rw [hkk] at HO HE ⊢
      have hnb := opens_len ks
      have hnc := closes_len ks
      have hce := cells_le ks
      rw [HKL.out] at hnb hnc hce
      obtain ⟨nb, hnbe⟩ : ∃ nb, (opens ks).length = nb := ⟨_, rfl⟩
      obtain ⟨nc, hnce⟩ : ∃ nb, cells ks = nb := ⟨_, rfl⟩
      rw [hnbe] at hnb HO
      rw [hnce] at hce ⊢
      have HNB := Lib.hid hnbe
      have HNC := Lib.hid hnce
      have HCL := Lib.hid hnc
      clear hkk hnbe hnce hnc
      go_wp2_with (at_builtin; refine wp_app (w0 := w1) rfl (.tmp 81) (.tmp 82) 36 9 (.string ByteArray.empty) 1 16 rfl Tryd.underlying36 infoStr rfl (by decide) (by decide) w1.heap.size _ nb (strO (opens ks)) rfl HO.out A7 j c7 (strO (closes ks)) rfl HE.out (strs_one _) (by omega) (by have := HBr.out.size; omega) HBr.out ?_)
      intro v5 w5 ho hb5 _
      obtain ⟨A5, c5, rfl, hr5⟩ := Rd.own ho
      have HR5 : Hid (Rd w5 A5 (nb + j) c5 1 (strs ((opens ks ++ closes ks).map nameR))) := Lib.hid (by
        have e : strs ((opens ks ++ closes ks).map nameR) = strO (opens ks) ++ strO (closes ks) := strO_app _ _
        rw [e]
        exact hr5)
      have HB5 := Lib.hid (below_two HB1.out hb5)
      clear ho hb5 hr5
      obtain ⟨M, hmk, hML, hMB, hMR, _⟩ := sett_M
      obtain ⟨s0, hs0⟩ : ∃ s : Ps, s = ⟨M, [], [], ctl, [], [], [], 0, 0, 0, 0, 0, 0, false, false⟩ := ⟨_, rfl⟩
      have hgood : Good s0 0 := by
        rw [hs0]
        exact ⟨hML, rfl, rfl, fun x hx => by cases hx⟩
      have hct : s0.ctl = ctl := by rw [hs0]
      obtain ⟨s1, hrun1, hg1, hc1⟩ := run_closes ks (s := s0) (n := 0) [] hgood (by rw [HKL.out]; omega) (by rw [hct, HN0.out, HKL.out]; omega)
      have hrn : runF s0 (opens ks ++ closes ks) = (s1, 0) := by
        rw [List.append_nil] at hrun1
        exact hrun1
      have HRN := Lib.hid hrn
      have HG1 : Hid (Good s1 nc) := Lib.hid (by rw [Nat.zero_add, HNC.out] at hg1; exact hg1)
      have HC1 : Hid (s1.ctl = ctl) := Lib.hid (hc1.trans hct)
      have hst : ∀ A : Option Addr, (.agg #[.slice A 400 400, .slice none 0 0, .slice none 0 0, .slice A0 n0 c0, .slice none 0 0, .slice none 0 0, .slice none 0 0, .int .i64 0, .int .i64 0, .int .i64 0, .int .i64 0, .int .i64 0, .int .i64 0, .bool false, .bool false] : Value) = stV ⟨A, 400, none, 0, none, 0, A0, c0, none, 0, none, 0, none, 0⟩ s0 := fun A => by
        rw [stV_eq, hs0]
        show _ = Value.agg #[.slice A M.length 400, .slice none 0 0, .slice none 0 0, .slice A0 ctl.length c0, .slice none 0 0, .slice none 0 0, .slice none 0 0, .int .i64 0, .int .i64 0, .int .i64 0, .int .i64 0, .int .i64 0, .int .i64 0, .bool false, .bool false]
        rw [hML, HN0.out]
      have hb6 := below_lit w5 (.cells (nums .u8 M).toArray 5 (0, 0))
      have HB6 := Lib.hid (below_two HB5.out hb6)
      have hp0 : RdP (w5.alloc (.cells (nums .u8 M).toArray 5 (0, 0))) ⟨some ⟨w5.heap.size, 0, none⟩, 400, none, 0, none, 0, A0, c0, none, 0, none, 0, none, 0⟩ s0 := by
        rw [hs0]
        exact ⟨hMR w5, hMB, rd_nil _ 1, rd_nil _ 2, HX0.out.below HB6.out, rd_nil _ 4, rd_nil _ 2, rd_nil _ 1, by simp [isB]⟩
      have h5 : ((opens ks ++ closes ks).map nameR).length = nb + j := by rw [List.length_map, List.length_append, HNB.out, HCL.out]
      have hrun := Run_any (stV ⟨some ⟨w5.heap.size, 0, none⟩, 400, none, 0, none, 0, A0, c0, none, 0, none, 0, none, 0⟩ s0) _ s0 A5 c5 (nb + j) ((opens ks ++ closes ks).map nameR) (opens ks ++ closes ks) s1 0 (w5.alloc (.cells (nums .u8 M).toArray 5 (0, 0))) rfl h5 (law_names _ (fun x hx => (List.mem_append.1 hx).elim (opens_law ks x) (closes_law ks x))) HRN.out hp0 (HR5.out.below hb6) (by omega)
        (by rw [hgood.len]; decide) (by rw [hgood.spots]; decide) (by rw [hct, HN0.out]; omega) (by rw [hs0]; exact Nat.zero_le _) (HT.out.below HB6.out)
      have HRUN := Lib.hid hrun
      clear hs0 hgood hct hrun1 hg1 hc1 hrn hb6 hp0 h5 hrun hML hMB hMR
      go_wp2_with fail
      refine HRUN.out.mono ?_
      clear hst hmk HRUN
      rintro e v6 ⟨q1, rfl, hr, hb⟩
      have HR1 := Lib.hid hr
      have HB7 := Lib.hid (below_two HB6.out hb)
      rw [stV_eq q1 s1]
      obtain ⟨W2, hW⟩ : ∃ W, v6.alloc (.cells #[.slice q1.m s1.mem.length q1.mc, .slice q1.d s1.data.length q1.dc, .slice q1.r s1.ret.length q1.rc, .slice q1.c s1.ctl.length q1.cc, .slice q1.w s1.words.length q1.wc, .slice q1.s s1.spots.length q1.sc, .slice q1.o s1.out.length q1.oc, .int .i64 s1.ip, .int .i64 s1.here, .int .i64 s1.pos, .int .i64 s1.tok, .int .i64 s1.inp, .int .i64 s1.err, .bool s1.comp, .bool s1.halt] 28) = W := ⟨_, rfl⟩
      have hbl : Below v6.heap.size v6 W2 := by rw [← hW]; exact below_lit _ _
      have HB8 := Lib.hid (below_two HB7.out hbl)
      have HR2 := Lib.hid (HR1.out.below hbl)
      have HG2 : Hid (Bx W2 v6.heap.size 28 (stL q1 s1)) := Lib.hid (by rw [← hW]; exact Bx.new _ _ _ _ _ rfl rfl)
      have HWW := Lib.hid hW
      clear hr hb hbl hW
      have g8 : W2.cell? ⟨v6.heap.size, 8, none⟩ = some (.int .i64 (8 * (nc : Int))) := by rw [HG2.out.cell 8, ← HG1.out.here]; rfl
      have g5 : W2.cell? ⟨v6.heap.size, 5, none⟩ = some (.slice q1.s nc q1.sc) := by rw [HG2.out.cell 5, ← HG1.out.spots]; rfl
      have g3 : W2.cell? ⟨v6.heap.size, 3, none⟩ = some (.slice q1.c n0 q1.cc) := by rw [HG2.out.cell 3, ← HN0.out, ← HC1.out]; rfl
      have gg8 := g8
      have gg5 := g5
      have gg3 := g3
      rw [← HWW.out] at gg8 gg5 gg3
      go_wp2_with fail
      rw [HWW.out]
      clear gg8 gg5 gg3
      have hsame := Same_any (ctlA q1.c q1.cc) (ctlA A0 c0) (ctlP ctl) W2 (rdP_ctl (by rw [← HC1.out]; exact HR2.out.ctl)) (rdP_ctl (HX0.out.below HB8.out)) (Nat.zero_le _) (Nat.zero_le _) (by show ctl.length ≤ _; rw [HN0.out]; omega) (Nat.zero_le _) (Nat.zero_le _)
      rw [stV_eq, stV_eq] at hsame
      rw [show (ctlP ctl).ctl.length = n0 from HN0.out] at hsame
      refine Calls.mono hsame ?_
      rintro e w9 ⟨rfl, hb⟩
      have HB9 := Lib.hid (below_two HB8.out hb)
      clear hb hsame
      go_wp2
      go_ret
      exact ⟨rfl, HB9.out⟩
end Go.Proofs.YtfkkmlgblhnkaaaDoor
