
/- Spots (api.Spot): cloned, looked through, some taken out. -/
import Derived.Test.YtfkkmlgblhnkaaaDoorMB
import Derived.WalkSpells
namespace Go.Proofs.YtfkkmlgblhnkaaaDoor
open Go.RowKit

def idxR (n k : Nat) : Int := if k < n then k else -1
theorem ecells_one_sp (l : List (Int × Int)) : ∀ u ∈ ecells encSp l, u.oneCell' = true := by
  intro u hu
  obtain ⟨x, _, hx⟩ := List.mem_flatMap.1 hu
  simp [encSp] at hx
  rcases hx with rfl | rfl <;> rfl

set_option maxHeartbeats 1000000 in
theorem CloneS_any (A : Option Addr) (c n : Nat) (l : List (Int × Int)) (w : World) (hn : l.length = n) (hx : RdE w encSp 2 A c l) (hl : n * 16 ≤ 140737488355328) :
    Calls Tryd.prog 71 #[.slice A n c] w fun e w' => ∃ x, e = .returned x ∧ w'.ownsRow w.heap.size 86 2 x n (ecells encSp l) ∧ Below w.heap.size w w' := by
  have q22 : ∀ (w : World) (a : Option Addr) (n c n' c' : Nat), (binOp .eql 26 (.slice a n c) (.slice none n' c')).run Tryd.prog w = .ok (.bool a.isNone) w := fun w a n c n' c' => Lib.run_eql_slice_nil w _ _ a n c n' c' Tryd.underlying26
  cases A with
  | none =>
    have h1 := hx.nil rfl
    have h2 := hx.le
    obtain rfl : l = [] := List.eq_nil_of_length_eq_zero (by omega)
    obtain rfl : n = 0 := by simpa using hn.symm
    subst h1
    clear hx h2
    go_enter Tryd.func71, Tryd.ntmps71
    go_wp2
    go_ret
    exact ⟨_, rfl, ⟨rfl, .inl ⟨rfl, rfl⟩⟩, Below.refl _ _⟩
  | some ad =>
    have HX := Lib.hid (hx.below (below_lit w (.cells #[] 86)))
    have HO : Hid ((w.alloc (.cells #[] 86)).ownsRow w.heap.size 86 2 (.slice (some ⟨w.heap.size, 0, none⟩) 0 0) 0 []) := Lib.hid (own_empty (heap_alloc_new _ _) (Nat.le_refl _))
    have HB := Lib.hid (below_lit w (.cells #[] 86))
    subst hn
    clear hx
    go_enter Tryd.func71, Tryd.ntmps71
    go_wp2_with (refine wp_app (w0 := w) rfl (.tmp 5) (.tmp 6) 26 86 _ 2 16 rfl Tryd.underlying26 infoSp rfl (by decide) (by decide) w.heap.size _ 0 [] rfl HO.out (some ad) l.length c (ecells encSp l) rfl HX.out (ecells_one_sp l) (by omega) HB.out.size HB.out ?_)
    intro v1 w1 ho hb _
    have HO2 := Lib.hid ho
    have HB2 := Lib.hid hb
    clear ho hb
    go_wp2
    go_ret
    exact ⟨_, rfl, by simpa using HO2.out, HB2.out⟩

set_option maxHeartbeats 1000000 in
theorem Emit1_any (x : Int × Int) (at_ : Int) (b : Bool) (p : Addr) (w : World) (hb : decide (at_ ≤ x.1) = b) (hp : w.cell? p = some (.int .i64 at_)) :
    Calls Tryd.prog 72 #[.agg #[.int .i64 x.1, .int .i64 x.2], .pointer (some p)] w fun e w' => e = .returned (.bool b) ∧ Below w.heap.size w w' := by
  have hp2 : (w.alloc (.cells #[.int .i64 x.1, .int .i64 x.2] 86)).cell? p = some (.int .i64 at_) := (below_lit w _).cell (World.block_lt_of_cell? w _ hp) |>.trans hp
  subst hb
  go_enter Tryd.func72, Tryd.ntmps72
  go_wp2
  go_ret
  exact ⟨rfl, below_lit _ _⟩

set_option maxHeartbeats 1000000 in
theorem IndexFuncS_any (A : Option Addr) (c n : Nat) (l : List (Int × Int)) (at_ : Int) (p : Addr) (r : Int) (w : World) (hn : l.length = n) (hr : idxR n (l.findIdx fun x => decide (at_ ≤ x.1)) = r) (hx : 0 < n → ∃ ad, A = some ad ∧ CellsE w encSp 2 ad l) (hc : n ≤ 1000000) (hp : w.cell? p = some (.int .i64 at_)) :
    Calls Tryd.prog 79 #[.slice A n c, .func (.func 72) #[] #[.pointer (some p)]] w fun e w' => e = .returned (.int .i64 r) ∧ Below w.heap.size w w' := by
  have HX := Lib.hid hx
  have HP := Lib.hid hp
  have HN := Lib.hid hn
  have HR := Lib.hid hr
  clear hx hp hn hr
  go_enter Tryd.func79, Tryd.ntmps79
  go_wp2_with fail
  go_loopw [8] (fun i wr => ∃ k : Nat, i = .int .i64 k ∧ k ≤ n ∧ Hid (∀ j, j < k → decide (at_ ≤ (l[j]!).1) = false) ∧ Hid (Below w.heap.size w wr)) (fun i _ => n - (intOf i).toNat)
  case atStart => exact ⟨0, rfl, by omega, Lib.hid (fun j hj => by omega), Lib.hid (Below.refl _ _)⟩
  case round =>
    obtain ⟨k, rfl, hk, HF, HB⟩ := hrel
    by_cases hlt : k < n
    · obtain ⟨ad, rfl, hcell⟩ := HX.out (by omega)
      have hlt2 : k < l.length := by rw [HN.out]; exact hlt
      have c0 := (hcell.below HB.out).at0 hlt2 (v := .int .i64 (l[k]!).1) rfl
      have c1 := (hcell.below HB.out).at' hlt2 1 (by decide) (v := .int .i64 (l[k]!).2) rfl
      have hpw := (HB.out.cell (World.block_lt_of_cell? w _ HP.out)).trans HP.out
      have HPW := Lib.hid hpw
      obtain ⟨x, hxk⟩ : ∃ x, l[k]! = x := ⟨_, rfl⟩
      rw [hxk] at c0 c1
      have HK := Lib.hid hxk
      obtain ⟨b, hb⟩ : ∃ b, decide (at_ ≤ x.1) = b := ⟨_, rfl⟩
      have HBB := Lib.hid hb
      clear hxk hcell hb hpw hlt2
      go_wp2_with fail
      refine (Emit1_any x at_ b p _ HBB.out HPW.out).mono ?_
      rintro e w2 ⟨rfl, hb⟩
      have HB2 := Lib.hid (below_two HB.out hb)
      clear hb c0 c1
      cases b with
      | true =>
        have hf : r = (k : Int) := by
          have hlt2 : k < l.length := by rw [HN.out]; exact hlt
          rw [← HR.out, idxR]
          have : l.findIdx (fun x => decide (at_ ≤ x.1)) = k := by
            rw [List.findIdx_eq hlt2]
            have e1 := HK.out
            rw [getElem!_pos l k hlt2] at e1
            refine ⟨by rw [e1]; exact HBB.out, fun j hj => ?_⟩
            have e2 := HF.out j hj
            rw [getElem!_pos l j (by omega)] at e2
            exact e2
          rw [this, if_pos hlt]
        have HF2 := Lib.hid hf
        clear hf
        go_wp2
        go_ret
        exact ⟨by rw [HF2.out]; rfl, HB2.out⟩
      | false =>
        go_wp2
        go_roundw
        case rel => exact ⟨k + 1, by go_num, by omega, Lib.hid (fun j hj => by
          rcases Nat.lt_or_ge j k with h1 | h1
          · exact HF.out j h1
          · obtain rfl : j = k := by omega
            rw [HK.out]; exact HBB.out), HB2⟩
        case measure => simp [intOf] <;> omega
    · obtain rfl : k = n := by omega
      have hf : r = -1 := by
        rw [← HR.out, idxR, if_neg]
        have : l.findIdx (fun x => decide (at_ ≤ x.1)) = l.length := by
          apply List.findIdx_eq_length.2
          intro x hx
          obtain ⟨j, hj, rfl⟩ := List.getElem_of_mem hx
          have := HF.out j (by rw [← HN.out]; exact hj)
          rw [getElem!_pos l j hj] at this
          exact this
        rw [this, HN.out]
        omega
      have HF2 := Lib.hid hf
      clear hf
      go_wp2
      go_ret
      exact ⟨by rw [HF2.out]; rfl, HB.out⟩

theorem slS_lo (g n c i : Nat) (w : World) (h : i ≤ n) (h2 : i < c) : (Instr.sliceAt 26 (.slice (some ⟨g, 0, none⟩) n c) (some (.int .i64 i)) none none).run Tryd.prog w = .ok (.slice (some ⟨g, i * 2, none⟩) (n - i) (c - i)) w := by
  have e2 : Tryd.prog.elem 26 = 86 := by kernel_rfl
  have ht : Tryd.prog.underlying 26 = some (.slice (Tryd.prog.elem 26)) := by rw [e2]; exact Tryd.underlying26
  rw [run_sliceAt_slice _ _ _ _ _ _ ht, run_slice_l _ _ _ _ _ ht .i64 i (by omega) (by omega), e2, Tryd.sizeOf86 w]
  simp only [Result.andThen, sliced, Int.toNat_natCast]
  rw [if_neg (by omega)]
  simp [Addr.add_lit]
theorem slS_hi (g n c i : Nat) (w : World) (h : i ≤ c) : (Instr.sliceAt 26 (.slice (some ⟨g, 0, none⟩) n c) none (some (.int .i64 i)) none).run Tryd.prog w = .ok (.slice (some ⟨g, 0, none⟩) i c) w := by
  have e2 : Tryd.prog.elem 26 = 86 := by kernel_rfl
  have ht : Tryd.prog.underlying 26 = some (.slice (Tryd.prog.elem 26)) := by rw [e2]; exact Tryd.underlying26
  rw [run_sliceAt_slice _ _ _ _ _ _ ht, run_slice_h _ _ _ _ _ ht .i64 i (by omega) (by omega), e2, Tryd.sizeOf86 w]
  simp only [Result.andThen, sliced, Int.toNat_natCast]
  by_cases h0 : c = 0
  · rw [if_pos (by omega)]
    simp
  · rw [if_neg (by omega)]
    simp [Addr.add]

/-- Those that stay. -/
def keepS (at_ : Int) (x : Int × Int) : Bool := decide (x.1 < at_)
theorem keepS_not (at_ : Int) (x : Int × Int) : keepS at_ x = !decide (at_ ≤ x.1) := by
  unfold keepS
  by_cases h : x.1 < at_
  · rw [decide_eq_true h, decide_eq_false (by omega)]; rfl
  · rw [decide_eq_false h, decide_eq_true (by omega)]; rfl
theorem filter_all {α : Type} (p : α → Bool) (l : List α) (h : ∀ x ∈ l, p x = true) : l.filter p = l := List.filter_eq_self.2 h
theorem take_succ' {α : Type} [Inhabited α] (l : List α) (j : Nat) (h : j < l.length) : l.take (j + 1) = l.take j ++ [l[j]!] := by
  rw [List.take_succ_eq_append_getElem h, getElem!_pos l j h]

/-- Where DeleteFunc stands: i of the first j have stayed. -/
structure Dl (l : List (Int × Int)) (at_ : Int) (cs : List Value) (n L i j : Nat) : Prop where
  len : cs.length = L
  lt : i < j
  le : j ≤ n
  cnt : ((l.take j).filter (keepS at_)).length = i
  front : cs.take (i * 2) = ecells encSp ((l.take j).filter (keepS at_))
  rest : ∀ k c, j ≤ k → k < n → c < 2 → cs[k * 2 + c]? = (encSp l[k]!)[c]?
theorem Dl.start {l : List (Int × Int)} {at_ : Int} {cs : List Value} {n L k : Nat} (hn : l.length = n) (hk : (l.findIdx fun x => decide (at_ ≤ x.1)) = k) (hkn : k < n) (hL : cs.length = L) (hc : cs.take (n * 2) = ecells encSp l) : Dl l at_ cs n L k (k + 1) := by
  have hk2 : k < l.length := by omega
  have hall : (l.take k).filter (keepS at_) = l.take k := by
    apply filter_all
    intro x hx
    obtain ⟨j, hj, rfl⟩ := List.getElem_of_mem hx
    have hj2 : j < k := by rw [List.length_take] at hj; omega
    rw [keepS_not, List.getElem_take]
    have := List.not_of_lt_findIdx (p := fun x : Int × Int => decide (at_ ≤ x.1)) (xs := l) (i := j) (by omega)
    simpa using this
  have hat : keepS at_ l[k]! = false := by
    rw [keepS_not, getElem!_pos l k hk2]
    have := (List.findIdx_eq hk2).1 hk
    rw [this.1]
    rfl
  have hf : (l.take (k + 1)).filter (keepS at_) = l.take k := by
    rw [take_succ' l k hk2, List.filter_append, hall]
    rw [List.filter_cons_of_neg (by rw [hat]; decide)]
    simp
  refine ⟨hL, by omega, by omega, by rw [hf, List.length_take]; omega, ?_, fun j c h1 h2 h3 => ?_⟩
  · rw [hf, ecells_take encSp_len, ← hc, List.take_take, Nat.min_eq_left (by omega)]
  · rw [← ecells_get encSp_len l j c (by omega) h3, ← hc, List.getElem?_take_of_lt (by omega)]
theorem Dl.drop {l : List (Int × Int)} {at_ : Int} {cs : List Value} {n L i j : Nat} (h : Dl l at_ cs n L i j) (hn : l.length = n) (hj : j < n) (hk : keepS at_ l[j]! = false) : Dl l at_ cs n L i (j + 1) := by
  have hf : (l.take (j + 1)).filter (keepS at_) = (l.take j).filter (keepS at_) := by
    rw [take_succ' l j (by omega), List.filter_append, List.filter_cons_of_neg (by rw [hk]; decide)]
    simp
  exact ⟨h.len, by have := h.lt; omega, by omega, by rw [hf]; exact h.cnt, by rw [hf]; exact h.front, fun k c h1 h2 h3 => h.rest k c (by omega) h2 h3⟩
theorem Dl.keep {l : List (Int × Int)} {at_ : Int} {cs : List Value} {n L i j : Nat} (h : Dl l at_ cs n L i j) (hn : l.length = n) (hj : j < n) (hnL : n * 2 ≤ L) (hk : keepS at_ l[j]! = true) : Dl l at_ (splice cs (i * 2) (encSp l[j]!)) n L (i + 1) (j + 1) := by
  have hf : (l.take (j + 1)).filter (keepS at_) = (l.take j).filter (keepS at_) ++ [l[j]!] := by
    rw [take_succ' l j (by omega), List.filter_append, List.filter_cons_of_pos hk]
    simp
  have hlt := h.lt
  have hlen := h.len
  have e2 : (encSp l[j]!).length = 2 := rfl
  refine ⟨by rw [length_splice _ _ _ (by rw [e2]; omega)]; exact hlen, by omega, by omega, by rw [hf, List.length_append, h.cnt]; rfl, ?_, fun k c h1 h2 h3 => ?_⟩
  · rw [hf, ecells_app, ← h.front]
    unfold splice
    rw [← List.append_assoc]
    have e3 : (cs.take (i * 2) ++ encSp l[j]!).length = (i + 1) * 2 := by rw [List.length_append, List.length_take, e2]; omega
    rw [List.take_append_of_le_length (by omega), List.take_of_length_le (by omega)]
    simp [ecells]
  · rw [← h.rest k c (by omega) h2 h3]
    unfold splice
    rw [List.getElem?_append_right (by rw [List.length_take]; omega), List.getElem?_append_right (by rw [List.length_take, e2]; omega), List.getElem?_drop]
    congr 1
    rw [List.length_take, e2]
    omega

set_option maxHeartbeats 2000000 in
theorem DeleteS_any (B : Nat) (x : Value) (n : Nat) (l : List (Int × Int)) (at_ : Int) (p : Addr) (m : List (Int × Int)) (w : World) (hn : l.length = n) (hm : l.filter (keepS at_) = m) (h : w.ownsRow B 86 2 x n (ecells encSp l)) (hc : n ≤ 1000000) (hp : w.cell? p = some (.int .i64 at_)) (hpB : p.block < B) (hBw : B ≤ w.heap.size) :
    Calls Tryd.prog 70 #[x, .func (.func 72) #[] #[.pointer (some p)]] w fun e w' => ∃ x', e = .returned x' ∧ w'.ownsRow B 86 2 x' m.length (ecells encSp m) ∧ Below B w w' := by
  have HN := Lib.hid hn
  have HM := Lib.hid hm
  have HO := Lib.hid h
  have HP := Lib.hid hp
  obtain ⟨A, c, rfl, hr⟩ := Rd.own h
  have HR := Lib.hid (show RdE w encSp 2 A c l by rw [← hn] at hr; exact hr)
  clear hn hm h hp hr
  have hle : (l.findIdx fun x => decide (at_ ≤ x.1)) ≤ n := by rw [← HN.out]; exact List.findIdx_le_length
  obtain ⟨k, hk⟩ : ∃ k, (l.findIdx fun x => decide (at_ ≤ x.1)) = k := ⟨_, rfl⟩
  rw [hk] at hle
  have HK := Lib.hid hk
  clear hk
  by_cases hkn : k < n
  · have hcall := IndexFuncS_any A c n l at_ p k w HN.out (by rw [HK.out, idxR, if_pos hkn]) (fun h0 => HR.out.all encSp_len (by decide) (by rw [HN.out]; exact h0)) hc HP.out
    have HCALL := Lib.hid hcall
    clear hcall
    obtain ⟨g, L, cs, hA, hgB, hbx, hL, hcs, hnL, hcap⟩ : ∃ g L cs, A = some ⟨g, 0, none⟩ ∧ B ≤ g ∧ Bx w g 86 cs ∧ cs.length = L ∧ cs.take (n * 2) = ecells encSp l ∧ n * 2 ≤ L ∧ (n ≤ c ∧ c ≤ maxLen ∧ L = c * 2) := by
      rcases HO.out.2 with ⟨_, h0⟩ | ⟨g, cap, cur, e1, hg, hh, hn, hm, hs, ht⟩
      · omega
      · injection e1 with e1 e2 e3
        subst e3
        exact ⟨g, cur.toList.length, cur.toList, e1, hg, hh, rfl, ht, by simp [hs]; omega, hn, hm, by simp [hs]⟩
    subst hA
    obtain ⟨hc1, hc2, hc3⟩ := hcap
    unfold maxLen at hc2
    have HD0 := Lib.hid (Dl.start HN.out HK.out hkn hL hcs)
    have HBX := Lib.hid hbx
    have hk1 : ((k : Int) == -1) = false := by simp
    clear hbx hL hcs HK
    go_enter Tryd.func70, Tryd.ntmps70
    go_wp2_with fail
    refine HCALL.out.mono ?_
    rintro e w1 ⟨rfl, hb⟩
    have HB1 := Lib.hid (hb.mono hBw)
    have HBX1 := Lib.hid (HBX.out.below hb)
    clear hb
    go_wp2_with fail
    go_loopw [5, 6] (fun x y wr => ∃ i j cs, x = .int .i64 (i : Nat) ∧ y = .int .i64 (j : Nat) ∧ i < j ∧ j ≤ n ∧ Hid (Dl l at_ cs n L i j) ∧ Hid (Bx wr g 86 cs) ∧ Hid (Below B w wr)) (fun _ y _ => n - (intOf y).toNat)
    case atStart => exact ⟨k, k + 1, cs, rfl, by go_num, by omega, by omega, HD0, HBX1, HB1⟩
    case round =>
      obtain ⟨i, j, cs, rfl, rfl, hij, hjn, HD, HX, HB⟩ := hrel
      by_cases hj : j < n
      · have c0 : wr.cell? ⟨g, j * 2, none⟩ = some (.int .i64 (l[j]!).1) := by
          have := HD.out.rest j 0 (Nat.le_refl _) hj (by decide)
          rw [HX.out.cell (j * 2)]
          exact this
        have c1 : wr.cell? ⟨g, j * 2 + 1, none⟩ = some (.int .i64 (l[j]!).2) := by
          rw [HX.out.cell (j * 2 + 1)]
          exact HD.out.rest j 1 (Nat.le_refl _) hj (by decide)
        obtain ⟨x, hx⟩ : ∃ x, l[j]! = x := ⟨_, rfl⟩
        rw [hx] at c0 c1
        have HXJ := Lib.hid hx
        obtain ⟨b, hb⟩ : ∃ b, decide (at_ ≤ x.1) = b := ⟨_, rfl⟩
        have HBB := Lib.hid hb
        have hbl := HB.out.alloc (Nat.le_trans hBw HB.out.size) (.cells #[.int .i64 x.1, .int .i64 x.2] 86)
        have HPW : Hid ((wr.alloc (.cells #[.int .i64 x.1, .int .i64 x.2] 86)).cell? p = some (.int .i64 at_)) := Lib.hid (by
          have h1 := HB.out.cell hpB
          rw [HP.out] at h1
          exact ((below_lit wr _).cell (World.block_lt_of_cell? wr _ h1)).trans h1)
        have HX1 := Lib.hid (HX.out.alloc (.cells #[.int .i64 x.1, .int .i64 x.2] 86))
        have HV : Hid (Bx (wr.alloc (.cells #[.int .i64 x.1, .int .i64 x.2] 86)) wr.heap.size 86 (encSp x)) := Lib.hid (Bx.new wr _ _ _ _ rfl rfl)
        have HBL := Lib.hid hbl
        have hgw : g < wr.heap.size := HX.out.lt
        clear hx hb hbl
        go_wp2_with fail
        refine (Emit1_any x at_ b p _ HBB.out HPW.out).mono ?_
        rintro e w2 ⟨rfl, hb⟩
        have HX2 := Lib.hid (HX1.out.below hb)
        have HV2 := Lib.hid (HV.out.below hb)
        have HB2 := Lib.hid (HBL.out.trans (hb.mono (Nat.le_trans hBw (Nat.le_trans HB.out.size (by simp)))))
        clear hb c0 c1 HPW
        cases b with
        | true =>
          have HD2 : Hid (Dl l at_ cs n L i (j + 1)) := Lib.hid (HD.out.drop HN.out hj (by rw [HXJ.out, keepS_not, HBB.out]; rfl))
          go_wp2
          go_roundw
          case rel => exact ⟨i, j + 1, cs, rfl, by go_num, by omega, by omega, HD2, HX2, HB2⟩
          case measure => simp [intOf] <;> omega
        | false =>
          have HD2 : Hid (Dl l at_ (splice cs (i * 2) (encSp x)) n L (i + 1) (j + 1)) := Lib.hid (by
            have := HD.out.keep HN.out hj hnL (by rw [HXJ.out, keepS_not, HBB.out]; rfl)
            rw [HXJ.out] at this
            exact this)
          have hcl : i * 2 + 2 ≤ cs.length := by rw [HD.out.len]; omega
          go_wp2_with (first
            | (refine wp_loadS rfl 86 _ rfl wr.heap.size rfl 86 _ _ HV2.out Tryd.underlying86 rfl 2 (by kernel_rfl) rfl ?_)
            | (refine wp_storeM rfl 86 _ _ rfl g (i * 2) (encSp x) rfl rfl rfl 86 cs HX2.out 2 rfl hcl (by kernel_rfl) ?_))
          intro w3 hx3 hw3
          have HX3 := Lib.hid hx3
          have HB3 := Lib.hid (below_grown HB2.out (Nat.le_trans hBw HB2.out.size) hw3 hgB)
          clear hx3 hw3
          go_wp2
          go_roundw
          case rel => exact ⟨i + 1, j + 1, _, by go_num, by go_num, by omega, by omega, HD2, HX3, HB3⟩
          case measure => simp [intOf] <;> omega
      · obtain rfl : j = n := by omega
        have hsl := fun w => slS_lo g j c i w (by omega) (by omega)
        have hsh := fun w => slS_hi g j c i w (by omega)
        have hzv : ∀ w, (zeroValue 86).run Tryd.prog w = .ok (.agg #[.int .i64 0, .int .i64 0]) w := fun w => Tryd.zeroValue86 w
        have hcl : i * 2 + (j - i) * 2 ≤ cs.length := by rw [HD.out.len]; omega
        go_wp2_with (refine wp_clear rfl _ 26 86 rfl Tryd.underlying26 _ hzv 2 rfl (by decide) g (i * 2) (j - i) (c - i) rfl (by omega) 86 cs HX.out hcl ?_)
        intro w4 cs4 hx4 hl4 ht4 hw4
        have HX4 := Lib.hid hx4
        have HB4 := Lib.hid (below_grown HB.out (Nat.le_trans hBw HB.out.size) hw4 hgB)
        have HT4 := Lib.hid ht4
        have HL4 := Lib.hid hl4
        clear hx4 hl4 ht4 hw4
        have hmm : (l.take j).filter (keepS at_) = m := by rw [← HM.out, List.take_of_length_le (by rw [HN.out]; exact Nat.le_refl _)]
        have HMM := Lib.hid hmm
        clear hmm
        go_wp2
        go_ret
        have hcnt := HD.out.cnt
        have hfr := HD.out.front
        rw [HMM.out] at hcnt hfr
        refine ⟨_, rfl, ⟨by rw [ecells_len encSp_len], .inr ⟨g, c, cs4.toArray, by rw [hcnt]; rfl, hgB, HX4.out, by rw [hcnt]; omega, by unfold maxLen; omega, ?_, ?_⟩⟩, HB4.out⟩
        · rw [List.size_toArray, HL4.out, HD.out.len, hc3]
        · rw [hcnt]
          show cs4.take (i * 2) = _
          rw [HT4.out, hfr]
  · obtain rfl : k = n := by omega
    have hcall := IndexFuncS_any A c k l at_ p (-1) w HN.out (by rw [HK.out, idxR, if_neg (by omega)]) (fun h0 => HR.out.all encSp_len (by decide) (by rw [HN.out]; exact h0)) hc HP.out
    have HCALL := Lib.hid hcall
    clear hcall
    have hm : m = l := by
      rw [← HM.out]
      apply filter_all
      intro y hy
      rw [keepS_not]
      have hk2 : (l.findIdx fun x => decide (at_ ≤ x.1)) = l.length := by rw [HK.out, HN.out]
      have := List.findIdx_eq_length.1 hk2 y hy
      rw [this]
      rfl
    have HMM := Lib.hid hm
    clear hm
    go_enter Tryd.func70, Tryd.ntmps70
    go_wp2_with fail
    refine HCALL.out.mono ?_
    rintro e w1 ⟨rfl, hb⟩
    have HB1 := Lib.hid hb
    have HO1 := Lib.hid (own_below HO.out hb)
    clear hb
    go_wp2
    go_ret
    refine ⟨_, rfl, ?_, HB1.out.mono hBw⟩
    rw [HMM.out, HN.out]
    exact HO1.out
end Go.Proofs.YtfkkmlgblhnkaaaDoor
