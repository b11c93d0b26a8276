/- The walk of CodecReads. -/
import Derived.Test.YtaegphgjdffgaaaAwake16
import Derived.Test.YtaegphgjdffgaaaRRead16
import Derived.Test.YtaegphgjdffgaaaRRText16
import Derived.Test.YtaegphgjdffgaaaWant16
import Derived.Deep.RegionHeld
namespace Go.Proofs.Ytaegphgjdffgaaa
open Go.RowKit

/-- The reference's reader, in a box. -/
structure BoxV (w : World) (g : Nat) (s : Value) (a e : Int) : Prop where
  k1 : w.cell? ⟨g, 0, none⟩ = some s
  k2 : w.cell? ⟨g, 1, none⟩ = some (.int .i64 a)
  k3 : w.cell? ⟨g, 2, none⟩ = some (.int .i64 e)
  k4 : w.frozen? ⟨g, 0, none⟩ = false
  k5 : w.frozen? ⟨g, 1, none⟩ = false
  k6 : w.frozen? ⟨g, 2, none⟩ = false
theorem BoxV.lt {w : World} {g : Nat} {s : Value} {a e : Int} (h : BoxV w g s a e) : g < w.heap.size := World.block_lt_of_cell? w _ h.k1
theorem BoxV.below {w w' : World} {g : Nat} {s : Value} {a e : Int} (h : BoxV w g s a e) (hb : Below w.heap.size w w') : BoxV w' g s a e :=
  ⟨(hb.cell h.lt).trans h.k1, (hb.cell h.lt).trans h.k2, (hb.cell h.lt).trans h.k3, (hb.frozen h.lt).trans h.k4, (hb.frozen h.lt).trans h.k5, (hb.frozen h.lt).trans h.k6⟩

theorem BoxV.only {w w' : World} {g : Nat} {s : Value} {a e : Int} {p : Nat} (h : BoxV w g s a e) (hb : Only p w w') (hne : g ≠ p) : BoxV w' g s a e :=
  ⟨hb.cell h.k1 hne, hb.cell h.k2 hne, hb.cell h.k3 hne, (hb.frozen h.lt hne).trans h.k4, (hb.frozen h.lt hne).trans h.k5, (hb.frozen h.lt hne).trans h.k6⟩
theorem BoxV.put {w : World} {g : Nat} {s : Value} {a e : Int} (h : BoxV w g s a e) (s' : Value) (a' e' : Int) : BoxV (((w.setCell ⟨g, 0, none⟩ s').setCell ⟨g, 1, none⟩ (.int .i64 a')).setCell ⟨g, 2, none⟩ (.int .i64 e')) g s' a' e' := by
  obtain ⟨k1, k2, k3, k4, k5, k6⟩ := h
  exact ⟨by go_simp, by go_simp, by go_simp, by go_simp, by go_simp, by go_simp⟩
/-- Bytes that lie in no block from M on. -/
def DatM (w : World) (M : Nat) (A : Option Addr) (c : Nat) (l : List Int) : Prop := ∀ B, M ≤ B → Dat w B A c l
theorem DatM.only {w w' : World} {M : Nat} {A : Option Addr} {c : Nat} {l : List Int} {N : Nat} (h : DatM w M A c l) (ho : Only N w w') (hN : M ≤ N) : DatM w' M A c l := fun B hB => ⟨((h N hN).only ho).1, (h B hB).2⟩
theorem DatM.below {w w' : World} {M : Nat} {A : Option Addr} {c : Nat} {l : List Int} (h : DatM w M A c l) (hb : Below w.heap.size w w') : DatM w' M A c l := fun B hB => (h B hB).only (Only.of hb)
theorem Rdr.other {w w' : World} {g gx M : Nat} {A : Option Addr} {c : Nat} {l : List Int} {e : Int} (h : Rdr w g A c l e) (hm : DatM w M A c l) (ho : Only gx w w') (hx : M ≤ gx) (hne : g ≠ gx) : Rdr w' g A c l e :=
  ⟨h.st.same (ho.block g h.st.lt hne), ⟨((hm gx hx).only ho).1, h.d.2⟩, h.b⟩
theorem box_new_a {w w6 : World} (hb : Below w.heap.size w w6) {v0 v1 v2 x0 : Value} {x1 x2 : Int} (z1 : w6.cell? ⟨w.heap.size, 0, none⟩ = some v0) (z2 : w6.cell? ⟨w.heap.size, 1, none⟩ = some v1) (z3 : w6.cell? ⟨w.heap.size, 2, none⟩ = some v2) (z4 : w6.frozen? ⟨w.heap.size, 0, none⟩ = false) (z5 : w6.frozen? ⟨w.heap.size, 1, none⟩ = false) (z6 : w6.frozen? ⟨w.heap.size, 2, none⟩ = false) :
    BoxV (((w6.setCell ⟨w.heap.size, 0, none⟩ x0).setCell ⟨w.heap.size, 1, none⟩ (.int .i64 x1)).setCell ⟨w.heap.size, 2, none⟩ (.int .i64 x2)) w.heap.size x0 x1 x2 ∧ Below w.heap.size w (((w6.setCell ⟨w.heap.size, 0, none⟩ x0).setCell ⟨w.heap.size, 1, none⟩ (.int .i64 x1)).setCell ⟨w.heap.size, 2, none⟩ (.int .i64 x2)) ∧ Only w.heap.size w6 (((w6.setCell ⟨w.heap.size, 0, none⟩ x0).setCell ⟨w.heap.size, 1, none⟩ (.int .i64 x1)).setCell ⟨w.heap.size, 2, none⟩ (.int .i64 x2)) :=
  ⟨⟨by go_simp, by go_simp, by go_simp, by go_simp, by go_simp, by go_simp⟩, ((hb.setCell (Nat.le_refl _) _).setCell (Nat.le_refl _) _).setCell (Nat.le_refl _) _, (((Only.refl _ w6).setCell 0 _).setCell 1 _).setCell 2 _⟩
theorem box_new_b {w w6 : World} (hb : Below w.heap.size w w6) {ty : TypeId} {x0 : Value} {x1 x2 : Int} :
    BoxV (w6.alloc (.cells #[x0, .int .i64 x1, .int .i64 x2] ty)) w6.heap.size x0 x1 x2 ∧ Below w.heap.size w (w6.alloc (.cells #[x0, .int .i64 x1, .int .i64 x2] ty)) :=
  ⟨⟨by go_simp, by go_simp, by go_simp, by go_simp, by go_simp, by go_simp⟩, below_two hb (below_lit _ _)⟩
theorem zero_box {w w' : World} {v0 v1 v2 : Value} {ty : TypeId} (hb : Below (w.alloc (.cells #[v0, v1, v2] ty)).drew.heap.size (w.alloc (.cells #[v0, v1, v2] ty)).drew w') :
    w'.cell? ⟨w.heap.size, 0, none⟩ = some v0 ∧ w'.cell? ⟨w.heap.size, 1, none⟩ = some v1 ∧ w'.cell? ⟨w.heap.size, 2, none⟩ = some v2 ∧ w'.frozen? ⟨w.heap.size, 0, none⟩ = false ∧ w'.frozen? ⟨w.heap.size, 1, none⟩ = false ∧ w'.frozen? ⟨w.heap.size, 2, none⟩ = false :=
  have hb : Below (w.alloc (.cells #[v0, v1, v2] ty)).heap.size (w.alloc (.cells #[v0, v1, v2] ty)) w' := below_two (Below.refl _ _).drew hb
  ⟨(hb.cell (by simp)).trans (by go_simp), (hb.cell (by simp)).trans (by go_simp), (hb.cell (by simp)).trans (by go_simp), (hb.frozen (by simp)).trans (by go_simp), (hb.frozen (by simp)).trans (by go_simp), (hb.frozen (by simp)).trans (by go_simp)⟩

set_option maxHeartbeats 4000000 in
set_option maxRecDepth 100000 in
theorem CodecReads_walk (A : Option Addr) (c : Nat) (b : List Int) (A2 : Option Addr) (c2 : Nat) (l : List Wn) (w : World) (hx : RdI w .u8 A c b) (hb : ∀ x ∈ b, 0 ≤ x ∧ x < 256) (hl : RdN w A2 c2 l) :
    Calls Try.prog 4 #[.slice A b.length c, .slice A2 l.length c2] w fun e w' => e = .returned (.bool true) ∧ Below w.heap.size w w' := by
  have HX := Lib.hid hx
  have HBR := Lib.hid hb
  have HL : Hid (0 < l.length → ∃ ad, A2 = some ad ∧ CellsN w ad l) := Lib.hid (fun h => RdN.all hl h)
  have hle := hx.le
  have hcm := hx.cap
  unfold maxLen at hcm
  clear hx hb hl
  go_enter Try.func4, Try.ntmps4
  go_wp2_with fail
  refine (awake_any w).mono ?_
  rintro e w1 ⟨rfl, hb⟩
  have HB := Lib.hid hb
  (replace HX := Lib.hid (Rd.below (Hid.out HX) hb))
  have HL1 : Hid (∀ k, k < l.length → ∃ ad, A2 = some ad ∧ CellsN w1 ad l) := Lib.hid (fun k hk => by
    obtain ⟨ad, e, hc⟩ := HL.out (by omega)
    exact ⟨ad, e, hc.below hb⟩)
  have HAM : Hid (∀ B w', w1.heap.size ≤ B → Below w1.heap.size w1 w' → Dat w' B A c b) := Lib.hid (fun B w' hB hb => ⟨Rd.below HX.out hb, fun h0 a ha => by
    obtain ⟨ad2, e, hc⟩ := RdI.all HX.out h0
    rw [ha] at e
    injection e with e
    subst e
    have := World.block_lt_of_cell? w1 _ (hc 0 h0)
    rw [add_block] at this
    omega⟩)
  clear hb HL
  by_cases h200 : 200 < b.length
  · go_wp2
    go_ret
    exact ⟨rfl, HB.out⟩
  by_cases h20 : 20 < l.length
  · go_wp2
    go_ret
    exact ⟨rfl, HB.out⟩
  go_wp2_with fail
  refine (New_any A c b.length b _ rfl HX.out HBR.out).mono ?_
  rintro e w4 ⟨g, rfl, hg, hr, hb⟩
  have hg4 := hr.st.lt
  have hg1 : w1.heap.size ≤ g := by omega
  have HR := Lib.hid (hr.below (below_lit w4 (.cells #[.slice A b.length c, .int .i64 0, .int .i64 0] 31)))
  have HV : Hid (BoxV (w4.alloc (.cells #[.slice A b.length c, .int .i64 0, .int .i64 0] 31)) w4.heap.size (.slice A b.length c) 0 0) := Lib.hid ⟨by go_simp, by go_simp, by go_simp, by go_simp, by go_simp, by go_simp⟩
  have HW : Hid (Below w1.heap.size w1 (w4.alloc (.cells #[.slice A b.length c, .int .i64 0, .int .i64 0] 31))) := Lib.hid (below_two hb (below_lit _ _))
  have hx1 : w1.heap.size ≤ w4.heap.size := hb.size
  clear hb hr hg
  go_wp2_with fail
  generalize (w4.alloc (.cells #[.slice A b.length c, .int .i64 0, .int .i64 0] 31)) = w5 at *
  generalize hgx : w4.heap.size = gx at *
  have hgg : g ≠ gx := by omega
  clear hgx
  go_loopw [8] (fun i wr => ∃ (k at_ : Nat) (e : Int) (A' : Option Addr) (c' : Nat), i = .int .i64 k ∧ k ≤ l.length ∧ at_ ≤ b.length ∧ Hid (Rdr wr g A' c' (b.drop at_) e) ∧ Hid (DatM wr w1.heap.size A' c' (b.drop at_)) ∧ Hid (BoxV wr gx (.slice A b.length c) at_ e) ∧ Hid (Below w1.heap.size w1 wr)) (fun i _ => l.length - (intOf i).toNat)
  case atStart => exact ⟨0, 0, 0, A, c, rfl, by omega, by omega, HR, Lib.hid (fun B hB => HAM.out B _ hB HW.out), HV, HW⟩
  case round =>
    clear HR HV HW
    obtain ⟨k, at_, e, A', c', rfl, hk, hat, HR, HM, HV, HW⟩ := hrel
    have HXr := Lib.hid (Rd.below HX.out HW.out)
    by_cases hlt : k < l.length
    · obtain ⟨ad, rfl, hcell⟩ := HL1.out k hlt
      have hwb : (ad.add (k * 3)).block < w1.heap.size := World.block_lt_of_cell? w1 _ (hcell.load hlt).1
      obtain ⟨p1, p2, p3⟩ := (hcell.below HW.out).load hlt
      clear hcell HL1
      generalize l[k]!.tx = tx at *
      generalize l[k]!.lo = lo at *
      generalize l[k]!.hi = hi at *
      obtain ⟨k1, k2, k3, k4, k5, k6⟩ := HV.out
      cases tx with
      | true =>
        obtain ⟨t, l2, e2, hq⟩ : ∃ t l2 e2, textS (b.drop at_) e hi = (t, l2, e2) := ⟨_, _, _, rfl⟩
        have HQ := Lib.hid hq
        have HT : Hid (∀ w', Below wr.heap.size wr w' → Calls Try.prog 14 #[.agg #[.slice A b.length c, .int .i64 at_, .int .i64 e], .int .i64 hi] w' fun r w'' => ∃ (at2 : Nat) (A1 : Option Addr) (c1 : Nat), r = .returned (.tuple #[.agg #[.slice A b.length c, .int .i64 at2, .int .i64 e2], .slice A1 t.length c1]) ∧ RdI w'' .u8 A1 c1 t ∧ (∀ g, Dat w' g A c b → Dat w'' g A1 c1 t) ∧ at2 ≤ b.length ∧ l2 = b.drop at2 ∧ Below w'.heap.size w' w'') := Lib.hid (fun w' hb => ReadText_any A c b at_ e hi w' (HXr.out.below hb) HBR.out hat t l2 e2 HQ.out (by omega))
        have KEEP : Hid (∀ w', Below wr.heap.size wr w' → Below wr.heap.size wr w' ∧ w'.cell? ⟨gx, 0, none⟩ = some (.slice A b.length c) ∧ w'.cell? ⟨gx, 1, none⟩ = some (.int .i64 at_) ∧ w'.cell? ⟨gx, 2, none⟩ = some (.int .i64 e) ∧ w'.cell? ⟨(ad.add (k * 3)).block, (ad.add (k * 3)).off + 2, none⟩ = some (.int .i64 hi)) := Lib.hid (fun w' hb => ⟨hb, (hb.cell (World.block_lt_of_cell? _ _ k1)).trans k1, (hb.cell (World.block_lt_of_cell? _ _ k2)).trans k2, (hb.cell (World.block_lt_of_cell? _ _ k3)).trans k3, (hb.cell (World.block_lt_of_cell? _ _ p3)).trans p3⟩)
        have KW : Hid (∀ w', Below w1.heap.size wr w' → w'.cell? ⟨(ad.add (k * 3)).block, (ad.add (k * 3)).off + 2, none⟩ = some (.int .i64 hi)) := Lib.hid (fun w' hb => (hb.cell (show (⟨(ad.add (k * 3)).block, (ad.add (k * 3)).off + 2, none⟩ : Addr).block < w1.heap.size from hwb)).trans p3)
        have HTA := Lib.hid (HT.out (wr.alloc (.cells #[.slice none 0 0, .int .i64 0, .int .i64 0] 31)).drew (below_lit _ _).drew)
        have HTD := Lib.hid (HT.out wr.drew (Below.refl _ _).drew)
        have hr1 : w1.heap.size ≤ wr.heap.size := HW.out.size
        have hgr : g < wr.heap.size := HR.out.st.lt
        have hxr : gx < wr.heap.size := HV.out.lt
        clear hq
        go_wp2_with fail
        go_region_held (fun w' => Below wr.heap.size wr w' ∧ w'.cell? ⟨gx, 0, none⟩ = some (.slice A b.length c) ∧ w'.cell? ⟨gx, 1, none⟩ = some (.int .i64 at_) ∧ w'.cell? ⟨gx, 2, none⟩ = some (.int .i64 e) ∧ w'.cell? ⟨(ad.add (k * 3)).block, (ad.add (k * 3)).off + 2, none⟩ = some (.int .i64 hi))
          (first
            | exact KEEP.out _ (Below.refl _ _).drew
            | assumption
            | exact KEEP.out _ (below_two (Below.refl _ _).drew (by assumption))
            | exact KEEP.out _ (below_two (Below.refl _ _).drew (below_lit _ _))
            | exact KEEP.out _ (below_lit _ _).drew
            | exact KEEP.out _ (below_two (below_two (Below.refl _ _).drew (below_lit _ _)) (by assumption))
            | exact KEEP.out _ (below_two (below_lit _ _).drew (by assumption))
            | exact KEEP.out _ (below_two ((by assumption : Below wr.heap.size wr _ ∧ _)).1 (below_lit _ _))
            | exact KEEP.out _ (below_two (by assumption) (below_lit _ _))
            | exact KEEP.out _ ((((by assumption : Below wr.heap.size wr _).setCell (Nat.le_refl _) _).setCell (Nat.le_refl _) _).setCell (Nat.le_refl _) _))
          (first
            | (go_at_call 14; (with_reducible refine HTA.out.mono ?_); rintro r w6 ⟨at2, A1, c1, rfl, h1, h2, h3, h4, hb6⟩; have hB6 : Below wr.heap.size wr w6 := below_two (below_lit _ _).drew hb6; have hz := zero_box hb6; obtain ⟨z1, z2, z3, z4, z5, z6⟩ := hz; have TX : Hid (DatM w6 w1.heap.size A1 c1 t) := Lib.hid (fun B hB => h2 B (HAM.out B _ hB (HW.out.trans ((below_lit wr _).drew.mono HW.out.size)))); clear h1 h2)
            | (go_at_call 14; (with_reducible refine HTD.out.mono ?_); rintro r w6 ⟨at2, A1, c1, rfl, h1, h2, h3, h4, hb6⟩; have hB6 : Below wr.heap.size wr w6 := below_two (Below.refl _ _).drew hb6; have TX : Hid (DatM w6 w1.heap.size A1 c1 t) := Lib.hid (fun B hB => h2 B (HAM.out B _ hB (HW.out.drew))); clear h1 h2))
        rotate_left
        · obtain ⟨BX, XW, ON⟩ := box_new_a hB6 z1 z2 z3 z4 z5 z6 (x0 := .slice A b.length c) (x1 := at2) (x2 := e2)
          have TX := Lib.hid (TX.out.only ON hr1)
          clear ON
          clear z1 z2 z3 z4 z5 z6 hb6 hB6
          generalize (((w6.setCell ⟨wr.heap.size, 0, none⟩ (.slice A b.length c)).setCell ⟨wr.heap.size, 1, none⟩ (.int .i64 at2)).setCell ⟨wr.heap.size, 2, none⟩ (.int .i64 e2)) = wX at *
          have hN : wr.heap.size ≤ wr.heap.size := Nat.le_refl _
          subst h4
          have XR := Lib.hid (HR.out.below XW)
          have XV := Lib.hid (HV.out.below XW)
          have XM := Lib.hid (HM.out.below XW)
          have XW1R := Lib.hid (XW.mono hr1)
          have XW1 := Lib.hid (HW.out.trans (XW.mono hr1))
          have hxx : w1.heap.size ≤ wX.heap.size := by have := XW.size; omega
          clear KEEP HT HTA HTD HR HV HM XW
          obtain ⟨q1, q2, q3, q4, q5, q6⟩ := BX
          obtain ⟨k1, k2, k3, k4, k5, k6⟩ := XV.out
          go_wp2_with fail
          clear q1 q2 q3 q4 q5 q6 k1 k2 k3 k4 k5 k6
          have YV : Hid (BoxV (((wX.setCell ⟨gx, 0, none⟩ (.slice A b.length c)).setCell ⟨gx, 1, none⟩ (.int .i64 at2)).setCell ⟨gx, 2, none⟩ (.int .i64 e2)) gx (.slice A b.length c) at2 e2) := Lib.hid (XV.out.put _ _ _)
          have YO := (((Only.refl gx wX).setCell 0 (.slice A b.length c)).setCell 1 (.int .i64 at2)).setCell 2 (.int .i64 e2)
          have YR := Lib.hid (XR.out.other XM.out YO hx1 hgg)
          have YM := Lib.hid (XM.out.only YO hx1)
          have TY := Lib.hid (TX.out.only YO hx1)
          have KWY : Hid (∀ w', Below w1.heap.size (((wX.setCell ⟨gx, 0, none⟩ (.slice A b.length c)).setCell ⟨gx, 1, none⟩ (.int .i64 at2)).setCell ⟨gx, 2, none⟩ (.int .i64 e2)) w' → w'.cell? ⟨(ad.add (k * 3)).block, (ad.add (k * 3)).off + 2, none⟩ = some (.int .i64 hi)) := Lib.hid (fun w' hb => KW.out w' ((XW1R.out.trans (YO.below hx1 hxx)).trans hb))
          have YW1 := Lib.hid (XW1.out.trans (YO.below hx1 hxx))
          have yx : w1.heap.size ≤ (((wX.setCell ⟨gx, 0, none⟩ (.slice A b.length c)).setCell ⟨gx, 1, none⟩ (.int .i64 at2)).setCell ⟨gx, 2, none⟩ (.int .i64 e2)).heap.size := Nat.le_trans hxx YO.size
          clear YO XR XV XM XW1 XW1R TX
          generalize (((wX.setCell ⟨gx, 0, none⟩ (.slice A b.length c)).setCell ⟨gx, 1, none⟩ (.int .i64 at2)).setCell ⟨gx, 2, none⟩ (.int .i64 e2)) = wY at *
          have KEEP2 : Hid (∀ w', Only g wY w' → Only g wY w' ∧ w'.cell? ⟨(ad.add (k * 3)).block, (ad.add (k * 3)).off + 2, none⟩ = some (.int .i64 hi)) := Lib.hid (fun w' ho => ⟨ho, KWY.out w' (ho.below hg1 yx)⟩)
          have HCALL := Lib.hid (RdText_dat g A' c' (b.drop at_) e hi wY.drew (YR.out.below (Below.refl _ _).drew) t (b.drop at2) e2 HQ.out (by rw [List.length_drop]; omega))
          have hcx : ∀ w', Only g wY w' → (convert 22 9 (.slice A1 t.length c1)).run Try.prog w' = .ok (.string (strOf t)) w' := fun w' ho => conv_all (n := t.length) rfl (((TY.out g hg1).only ho).1) w' (Below.refl _ _)
          clear TY
          go_region_held (fun w' => Only g wY w' ∧ w'.cell? ⟨(ad.add (k * 3)).block, (ad.add (k * 3)).off + 2, none⟩ = some (.int .i64 hi))
            (first
              | exact KEEP2.out _ (Only.refl g wY).drew
              | assumption
              | exact KEEP2.out _ (by assumption))
            ((go_at_call 15; (with_reducible refine HCALL.out.mono ?_); rintro r w7 ⟨A3, c3, rfl, hr3, A4, c4, hk4, ho4⟩; have hO7 : Only g wY w7 := (Only.refl g wY).drew.trans ho4; have hcy := conv_all (n := t.length) rfl hr3; have hcy0 := hcy w7 (Below.refl _ _); clear hcy))
          all_goals
            have ZR := Lib.hid hk4.r
            have ZM : Hid (DatM w7 w1.heap.size A4 c4 (b.drop at2)) := Lib.hid (fun B hB => hk4.k B (((YM.out B hB).only (Only.of (Below.refl _ _).drew))))
            have ZV := Lib.hid (YV.out.only hO7 hgg.symm)
            have ZW1 := Lib.hid (YW1.out.trans (hO7.below hg1 yx))
            clear hk4 ho4 hO7 hr3 hcy0 hcx KEEP2 HCALL YR YM YV YW1 KW KWY
            go_wp2_with fail
            have HERR : Hid (∀ w', Below w7.heap.size w7 w' → Calls Try.prog 18 #[.pointer (some ⟨g, 0, none⟩)] w' fun r w'' => r = .returned (.int .i64 e2) ∧ w' = w'') := Lib.hid (fun w' hb => Err_any g e2 w' (ZR.out.below hb).st.c1)
            have HEND : Hid (∀ w', Below w7.heap.size w7 w' → Calls Try.prog 19 #[.pointer (some ⟨g, 0, none⟩)] w' fun r w'' => r = .returned (.int .i64 (endS (b.drop at2) e2)) ∧ w' = w'') := Lib.hid (fun w' hb => End_any g A4 c4 (b.drop at2) e2 w' (ZR.out.below hb).st)
            have HREN : Hid (∀ w', Calls Try.prog 20 #[.agg #[.slice A b.length c, .int .i64 at2, .int .i64 e2]] w' fun r w'' => r = .returned (.int .i64 (endS (b.drop at2) e2)) ∧ Below w'.heap.size w' w'') := Lib.hid (fun w' => REnd_any A c b at2 e2 w' h3 _ rfl)
            have KEEP3 : Hid (∀ w', Below w7.heap.size w7 w' → Below w7.heap.size w7 w' ∧ w'.cell? ⟨gx, 0, none⟩ = some (.slice A b.length c) ∧ w'.cell? ⟨gx, 1, none⟩ = some (.int .i64 at2) ∧ w'.cell? ⟨gx, 2, none⟩ = some (.int .i64 e2)) := Lib.hid (fun w' hb => ⟨hb, (ZV.out.below hb).k1, (ZV.out.below hb).k2, (ZV.out.below hb).k3⟩)
            generalize endS (b.drop at2) e2 = en at *
            go_region_held (fun w' => Below w7.heap.size w7 w' ∧ w'.cell? ⟨gx, 0, none⟩ = some (.slice A b.length c) ∧ w'.cell? ⟨gx, 1, none⟩ = some (.int .i64 at2) ∧ w'.cell? ⟨gx, 2, none⟩ = some (.int .i64 e2))
              (first
                | exact KEEP3.out _ (Below.refl _ _).drew
                | assumption
                | exact KEEP3.out _ (by assumption))
              (first
                | (go_at_call 18; refine (HERR.out _ ((by assumption : Below w7.heap.size w7 _ ∧ _)).1).mono ?_; rintro r w' ⟨rfl, rfl⟩)
                | (go_at_call 19; refine (HEND.out _ ((by assumption : Below w7.heap.size w7 _ ∧ _)).1).mono ?_; rintro r w' ⟨rfl, rfl⟩)
                | (go_at_call 20; have hS0 := ((by assumption : Below w7.heap.size w7 _ ∧ _)).1; refine (HREN.out _).mono ?_; rintro r w8 ⟨rfl, hb8⟩; have hB8 : Below w7.heap.size w7 w8 := below_two hS0 hb8; clear hS0))
            all_goals
              have hF := ((by assumption : Below w7.heap.size w7 _ ∧ _)).1
              have hw7 : w1.heap.size ≤ w7.heap.size := ZW1.out.size
              have FR := Lib.hid (ZR.out.below hF)
              have FV := Lib.hid (ZV.out.below hF)
              have FM := Lib.hid (ZM.out.below hF)
              have FW := Lib.hid (ZW1.out.trans (hF.mono hw7))
              go_wp2
              go_roundw
              case rel => exact ⟨k + 1, at2, e2, A4, c4, by go_num, by omega, h3, FR, FM, FV, FW⟩
              case measure => simp [intOf] <;> omega
        · obtain ⟨BX, XW⟩ := box_new_b hB6 (ty := 31) (x0 := .slice A b.length c) (x1 := at2) (x2 := e2)
          have hN : wr.heap.size ≤ w6.heap.size := hB6.size
          have TX := Lib.hid (TX.out.below (below_lit w6 (.cells #[.slice A b.length c, .int .i64 at2, .int .i64 e2] 31)))
          clear hb6 hB6
          generalize (w6.alloc (.cells #[.slice A b.length c, .int .i64 at2, .int .i64 e2] 31)) = wX at *
          generalize w6.heap.size = N at *
          subst h4
          have XR := Lib.hid (HR.out.below XW)
          have XV := Lib.hid (HV.out.below XW)
          have XM := Lib.hid (HM.out.below XW)
          have XW1R := Lib.hid (XW.mono hr1)
          have XW1 := Lib.hid (HW.out.trans (XW.mono hr1))
          have hxx : w1.heap.size ≤ wX.heap.size := by have := XW.size; omega
          clear KEEP HT HTA HTD HR HV HM XW
          obtain ⟨q1, q2, q3, q4, q5, q6⟩ := BX
          obtain ⟨k1, k2, k3, k4, k5, k6⟩ := XV.out
          go_wp2_with fail
          clear q1 q2 q3 q4 q5 q6 k1 k2 k3 k4 k5 k6
          have YV : Hid (BoxV (((wX.setCell ⟨gx, 0, none⟩ (.slice A b.length c)).setCell ⟨gx, 1, none⟩ (.int .i64 at2)).setCell ⟨gx, 2, none⟩ (.int .i64 e2)) gx (.slice A b.length c) at2 e2) := Lib.hid (XV.out.put _ _ _)
          have YO := (((Only.refl gx wX).setCell 0 (.slice A b.length c)).setCell 1 (.int .i64 at2)).setCell 2 (.int .i64 e2)
          have YR := Lib.hid (XR.out.other XM.out YO hx1 hgg)
          have YM := Lib.hid (XM.out.only YO hx1)
          have TY := Lib.hid (TX.out.only YO hx1)
          have KWY : Hid (∀ w', Below w1.heap.size (((wX.setCell ⟨gx, 0, none⟩ (.slice A b.length c)).setCell ⟨gx, 1, none⟩ (.int .i64 at2)).setCell ⟨gx, 2, none⟩ (.int .i64 e2)) w' → w'.cell? ⟨(ad.add (k * 3)).block, (ad.add (k * 3)).off + 2, none⟩ = some (.int .i64 hi)) := Lib.hid (fun w' hb => KW.out w' ((XW1R.out.trans (YO.below hx1 hxx)).trans hb))
          have YW1 := Lib.hid (XW1.out.trans (YO.below hx1 hxx))
          have yx : w1.heap.size ≤ (((wX.setCell ⟨gx, 0, none⟩ (.slice A b.length c)).setCell ⟨gx, 1, none⟩ (.int .i64 at2)).setCell ⟨gx, 2, none⟩ (.int .i64 e2)).heap.size := Nat.le_trans hxx YO.size
          clear YO XR XV XM XW1 XW1R TX
          generalize (((wX.setCell ⟨gx, 0, none⟩ (.slice A b.length c)).setCell ⟨gx, 1, none⟩ (.int .i64 at2)).setCell ⟨gx, 2, none⟩ (.int .i64 e2)) = wY at *
          have KEEP2 : Hid (∀ w', Only g wY w' → Only g wY w' ∧ w'.cell? ⟨(ad.add (k * 3)).block, (ad.add (k * 3)).off + 2, none⟩ = some (.int .i64 hi)) := Lib.hid (fun w' ho => ⟨ho, KWY.out w' (ho.below hg1 yx)⟩)
          have HCALL := Lib.hid (RdText_dat g A' c' (b.drop at_) e hi wY.drew (YR.out.below (Below.refl _ _).drew) t (b.drop at2) e2 HQ.out (by rw [List.length_drop]; omega))
          have hcx : ∀ w', Only g wY w' → (convert 22 9 (.slice A1 t.length c1)).run Try.prog w' = .ok (.string (strOf t)) w' := fun w' ho => conv_all (n := t.length) rfl (((TY.out g hg1).only ho).1) w' (Below.refl _ _)
          clear TY
          go_region_held (fun w' => Only g wY w' ∧ w'.cell? ⟨(ad.add (k * 3)).block, (ad.add (k * 3)).off + 2, none⟩ = some (.int .i64 hi))
            (first
              | exact KEEP2.out _ (Only.refl g wY).drew
              | assumption
              | exact KEEP2.out _ (by assumption))
            ((go_at_call 15; (with_reducible refine HCALL.out.mono ?_); rintro r w7 ⟨A3, c3, rfl, hr3, A4, c4, hk4, ho4⟩; have hO7 : Only g wY w7 := (Only.refl g wY).drew.trans ho4; have hcy := conv_all (n := t.length) rfl hr3; have hcy0 := hcy w7 (Below.refl _ _); clear hcy))
          all_goals
            have ZR := Lib.hid hk4.r
            have ZM : Hid (DatM w7 w1.heap.size A4 c4 (b.drop at2)) := Lib.hid (fun B hB => hk4.k B (((YM.out B hB).only (Only.of (Below.refl _ _).drew))))
            have ZV := Lib.hid (YV.out.only hO7 hgg.symm)
            have ZW1 := Lib.hid (YW1.out.trans (hO7.below hg1 yx))
            clear hk4 ho4 hO7 hr3 hcy0 hcx KEEP2 HCALL YR YM YV YW1 KW KWY
            go_wp2_with fail
            have HERR : Hid (∀ w', Below w7.heap.size w7 w' → Calls Try.prog 18 #[.pointer (some ⟨g, 0, none⟩)] w' fun r w'' => r = .returned (.int .i64 e2) ∧ w' = w'') := Lib.hid (fun w' hb => Err_any g e2 w' (ZR.out.below hb).st.c1)
            have HEND : Hid (∀ w', Below w7.heap.size w7 w' → Calls Try.prog 19 #[.pointer (some ⟨g, 0, none⟩)] w' fun r w'' => r = .returned (.int .i64 (endS (b.drop at2) e2)) ∧ w' = w'') := Lib.hid (fun w' hb => End_any g A4 c4 (b.drop at2) e2 w' (ZR.out.below hb).st)
            have HREN : Hid (∀ w', Calls Try.prog 20 #[.agg #[.slice A b.length c, .int .i64 at2, .int .i64 e2]] w' fun r w'' => r = .returned (.int .i64 (endS (b.drop at2) e2)) ∧ Below w'.heap.size w' w'') := Lib.hid (fun w' => REnd_any A c b at2 e2 w' h3 _ rfl)
            have KEEP3 : Hid (∀ w', Below w7.heap.size w7 w' → Below w7.heap.size w7 w' ∧ w'.cell? ⟨gx, 0, none⟩ = some (.slice A b.length c) ∧ w'.cell? ⟨gx, 1, none⟩ = some (.int .i64 at2) ∧ w'.cell? ⟨gx, 2, none⟩ = some (.int .i64 e2)) := Lib.hid (fun w' hb => ⟨hb, (ZV.out.below hb).k1, (ZV.out.below hb).k2, (ZV.out.below hb).k3⟩)
            generalize endS (b.drop at2) e2 = en at *
            go_region_held (fun w' => Below w7.heap.size w7 w' ∧ w'.cell? ⟨gx, 0, none⟩ = some (.slice A b.length c) ∧ w'.cell? ⟨gx, 1, none⟩ = some (.int .i64 at2) ∧ w'.cell? ⟨gx, 2, none⟩ = some (.int .i64 e2))
              (first
                | exact KEEP3.out _ (Below.refl _ _).drew
                | assumption
                | exact KEEP3.out _ (by assumption))
              (first
                | (go_at_call 18; refine (HERR.out _ ((by assumption : Below w7.heap.size w7 _ ∧ _)).1).mono ?_; rintro r w' ⟨rfl, rfl⟩)
                | (go_at_call 19; refine (HEND.out _ ((by assumption : Below w7.heap.size w7 _ ∧ _)).1).mono ?_; rintro r w' ⟨rfl, rfl⟩)
                | (go_at_call 20; have hS0 := ((by assumption : Below w7.heap.size w7 _ ∧ _)).1; refine (HREN.out _).mono ?_; rintro r w8 ⟨rfl, hb8⟩; have hB8 : Below w7.heap.size w7 w8 := below_two hS0 hb8; clear hS0))
            all_goals
              have hF := ((by assumption : Below w7.heap.size w7 _ ∧ _)).1
              have hw7 : w1.heap.size ≤ w7.heap.size := ZW1.out.size
              have FR := Lib.hid (ZR.out.below hF)
              have FV := Lib.hid (ZV.out.below hF)
              have FM := Lib.hid (ZM.out.below hF)
              have FW := Lib.hid (ZW1.out.trans (hF.mono hw7))
              go_wp2
              go_roundw
              case rel => exact ⟨k + 1, at2, e2, A4, c4, by go_num, by omega, h3, FR, FM, FV, FW⟩
              case measure => simp [intOf] <;> omega
      | false =>
        obtain ⟨t, l2, e2, hq⟩ : ∃ t l2 e2, readS (b.drop at_) e lo hi = (t, l2, e2) := ⟨_, _, _, rfl⟩
        have HQ := Lib.hid hq
        have HT : Hid (∀ w', Below wr.heap.size wr w' → Calls Try.prog 16 #[.agg #[.slice A b.length c, .int .i64 at_, .int .i64 e], .int .i64 lo, .int .i64 hi] w' fun r w'' => ∃ at2 : Nat, r = .returned (.tuple #[.agg #[.slice A b.length c, .int .i64 at2, .int .i64 e2], .int .i64 t]) ∧ at2 ≤ b.length ∧ l2 = b.drop at2 ∧ Below w'.heap.size w' w'') := Lib.hid (fun w' hb => Read_any A c b at_ e lo hi w' (HXr.out.below hb) HBR.out hat t l2 e2 HQ.out (by omega))
        have KEEP : Hid (∀ w', Below wr.heap.size wr w' → Below wr.heap.size wr w' ∧ w'.cell? ⟨gx, 0, none⟩ = some (.slice A b.length c) ∧ w'.cell? ⟨gx, 1, none⟩ = some (.int .i64 at_) ∧ w'.cell? ⟨gx, 2, none⟩ = some (.int .i64 e) ∧ w'.cell? ⟨(ad.add (k * 3)).block, (ad.add (k * 3)).off + 1, none⟩ = some (.int .i64 lo) ∧ w'.cell? ⟨(ad.add (k * 3)).block, (ad.add (k * 3)).off + 2, none⟩ = some (.int .i64 hi)) := Lib.hid (fun w' hb => ⟨hb, (hb.cell (World.block_lt_of_cell? _ _ k1)).trans k1, (hb.cell (World.block_lt_of_cell? _ _ k2)).trans k2, (hb.cell (World.block_lt_of_cell? _ _ k3)).trans k3, (hb.cell (World.block_lt_of_cell? _ _ p2)).trans p2, (hb.cell (World.block_lt_of_cell? _ _ p3)).trans p3⟩)
        have KW : Hid (∀ w', Below w1.heap.size wr w' → w'.cell? ⟨(ad.add (k * 3)).block, (ad.add (k * 3)).off + 1, none⟩ = some (.int .i64 lo) ∧ w'.cell? ⟨(ad.add (k * 3)).block, (ad.add (k * 3)).off + 2, none⟩ = some (.int .i64 hi)) := Lib.hid (fun w' hb => ⟨(hb.cell (show (⟨(ad.add (k * 3)).block, (ad.add (k * 3)).off + 1, none⟩ : Addr).block < w1.heap.size from hwb)).trans p2, (hb.cell (show (⟨(ad.add (k * 3)).block, (ad.add (k * 3)).off + 2, none⟩ : Addr).block < w1.heap.size from hwb)).trans p3⟩)
        have HTA := Lib.hid (HT.out (wr.alloc (.cells #[.slice none 0 0, .int .i64 0, .int .i64 0] 31)).drew (below_lit _ _).drew)
        have HTD := Lib.hid (HT.out wr.drew (Below.refl _ _).drew)
        have hr1 : w1.heap.size ≤ wr.heap.size := HW.out.size
        have hgr : g < wr.heap.size := HR.out.st.lt
        have hxr : gx < wr.heap.size := HV.out.lt
        clear hq
        go_wp2_with fail
        go_region_held (fun w' => Below wr.heap.size wr w' ∧ w'.cell? ⟨gx, 0, none⟩ = some (.slice A b.length c) ∧ w'.cell? ⟨gx, 1, none⟩ = some (.int .i64 at_) ∧ w'.cell? ⟨gx, 2, none⟩ = some (.int .i64 e) ∧ w'.cell? ⟨(ad.add (k * 3)).block, (ad.add (k * 3)).off + 1, none⟩ = some (.int .i64 lo) ∧ w'.cell? ⟨(ad.add (k * 3)).block, (ad.add (k * 3)).off + 2, none⟩ = some (.int .i64 hi))
          (first
            | exact KEEP.out _ (Below.refl _ _).drew
            | assumption
            | exact KEEP.out _ (below_two (Below.refl _ _).drew (by assumption))
            | exact KEEP.out _ (below_two (Below.refl _ _).drew (below_lit _ _))
            | exact KEEP.out _ (below_lit _ _).drew
            | exact KEEP.out _ (below_two (below_two (Below.refl _ _).drew (below_lit _ _)) (by assumption))
            | exact KEEP.out _ (below_two (below_lit _ _).drew (by assumption))
            | exact KEEP.out _ (below_two ((by assumption : Below wr.heap.size wr _ ∧ _)).1 (below_lit _ _))
            | exact KEEP.out _ (below_two (by assumption) (below_lit _ _))
            | exact KEEP.out _ ((((by assumption : Below wr.heap.size wr _).setCell (Nat.le_refl _) _).setCell (Nat.le_refl _) _).setCell (Nat.le_refl _) _))
          (first
            | (go_at_call 16; (with_reducible refine HTA.out.mono ?_); rintro r w6 ⟨at2, rfl, h3, h4, hb6⟩; have hB6 : Below wr.heap.size wr w6 := below_two (below_lit _ _).drew hb6; have hz := zero_box hb6; obtain ⟨z1, z2, z3, z4, z5, z6⟩ := hz)
            | (go_at_call 16; (with_reducible refine HTD.out.mono ?_); rintro r w6 ⟨at2, rfl, h3, h4, hb6⟩; have hB6 : Below wr.heap.size wr w6 := below_two (Below.refl _ _).drew hb6))
        rotate_left
        · obtain ⟨BX, XW, ON⟩ := box_new_a hB6 z1 z2 z3 z4 z5 z6 (x0 := .slice A b.length c) (x1 := at2) (x2 := e2)
          clear ON
          clear z1 z2 z3 z4 z5 z6 hb6 hB6
          generalize (((w6.setCell ⟨wr.heap.size, 0, none⟩ (.slice A b.length c)).setCell ⟨wr.heap.size, 1, none⟩ (.int .i64 at2)).setCell ⟨wr.heap.size, 2, none⟩ (.int .i64 e2)) = wX at *
          have hN : wr.heap.size ≤ wr.heap.size := Nat.le_refl _
          subst h4
          have XR := Lib.hid (HR.out.below XW)
          have XV := Lib.hid (HV.out.below XW)
          have XM := Lib.hid (HM.out.below XW)
          have XW1R := Lib.hid (XW.mono hr1)
          have XW1 := Lib.hid (HW.out.trans (XW.mono hr1))
          have hxx : w1.heap.size ≤ wX.heap.size := by have := XW.size; omega
          clear KEEP HT HTA HTD HR HV HM XW
          obtain ⟨q1, q2, q3, q4, q5, q6⟩ := BX
          obtain ⟨k1, k2, k3, k4, k5, k6⟩ := XV.out
          go_wp2_with fail
          clear q1 q2 q3 q4 q5 q6 k1 k2 k3 k4 k5 k6
          have YV : Hid (BoxV (((wX.setCell ⟨gx, 0, none⟩ (.slice A b.length c)).setCell ⟨gx, 1, none⟩ (.int .i64 at2)).setCell ⟨gx, 2, none⟩ (.int .i64 e2)) gx (.slice A b.length c) at2 e2) := Lib.hid (XV.out.put _ _ _)
          have YO := (((Only.refl gx wX).setCell 0 (.slice A b.length c)).setCell 1 (.int .i64 at2)).setCell 2 (.int .i64 e2)
          have YR := Lib.hid (XR.out.other XM.out YO hx1 hgg)
          have YM := Lib.hid (XM.out.only YO hx1)
          have KWY : Hid (∀ w', Below w1.heap.size (((wX.setCell ⟨gx, 0, none⟩ (.slice A b.length c)).setCell ⟨gx, 1, none⟩ (.int .i64 at2)).setCell ⟨gx, 2, none⟩ (.int .i64 e2)) w' → w'.cell? ⟨(ad.add (k * 3)).block, (ad.add (k * 3)).off + 1, none⟩ = some (.int .i64 lo) ∧ w'.cell? ⟨(ad.add (k * 3)).block, (ad.add (k * 3)).off + 2, none⟩ = some (.int .i64 hi)) := Lib.hid (fun w' hb => KW.out w' ((XW1R.out.trans (YO.below hx1 hxx)).trans hb))
          have YW1 := Lib.hid (XW1.out.trans (YO.below hx1 hxx))
          have yx : w1.heap.size ≤ (((wX.setCell ⟨gx, 0, none⟩ (.slice A b.length c)).setCell ⟨gx, 1, none⟩ (.int .i64 at2)).setCell ⟨gx, 2, none⟩ (.int .i64 e2)).heap.size := Nat.le_trans hxx YO.size
          clear YO XR XV XM XW1 XW1R
          generalize (((wX.setCell ⟨gx, 0, none⟩ (.slice A b.length c)).setCell ⟨gx, 1, none⟩ (.int .i64 at2)).setCell ⟨gx, 2, none⟩ (.int .i64 e2)) = wY at *
          have KEEP2 : Hid (∀ w', Only g wY w' → Only g wY w' ∧ w'.cell? ⟨(ad.add (k * 3)).block, (ad.add (k * 3)).off + 1, none⟩ = some (.int .i64 lo) ∧ w'.cell? ⟨(ad.add (k * 3)).block, (ad.add (k * 3)).off + 2, none⟩ = some (.int .i64 hi)) := Lib.hid (fun w' ho => ⟨ho, KWY.out w' (ho.below hg1 yx)⟩)
          have HCALL := Lib.hid (RdNum_dat g A' c' (b.drop at_) e lo hi wY.drew (YR.out.below (Below.refl _ _).drew) t (b.drop at2) e2 HQ.out (by rw [List.length_drop]; omega))
          go_region_held (fun w' => Only g wY w' ∧ w'.cell? ⟨(ad.add (k * 3)).block, (ad.add (k * 3)).off + 1, none⟩ = some (.int .i64 lo) ∧ w'.cell? ⟨(ad.add (k * 3)).block, (ad.add (k * 3)).off + 2, none⟩ = some (.int .i64 hi))
            (first
              | exact KEEP2.out _ (Only.refl g wY).drew
              | assumption
              | exact KEEP2.out _ (by assumption))
            ((go_at_call 17; (with_reducible refine HCALL.out.mono ?_); rintro r w7 ⟨rfl, A4, c4, hk4, ho4⟩; have hO7 : Only g wY w7 := (Only.refl g wY).drew.trans ho4))
          all_goals
            have ZR := Lib.hid hk4.r
            have ZM : Hid (DatM w7 w1.heap.size A4 c4 (b.drop at2)) := Lib.hid (fun B hB => hk4.k B (((YM.out B hB).only (Only.of (Below.refl _ _).drew))))
            have ZV := Lib.hid (YV.out.only hO7 hgg.symm)
            have ZW1 := Lib.hid (YW1.out.trans (hO7.below hg1 yx))
            clear hk4 ho4 hO7 KEEP2 HCALL YR YM YV YW1 KW KWY
            go_wp2_with fail
            have HERR : Hid (∀ w', Below w7.heap.size w7 w' → Calls Try.prog 18 #[.pointer (some ⟨g, 0, none⟩)] w' fun r w'' => r = .returned (.int .i64 e2) ∧ w' = w'') := Lib.hid (fun w' hb => Err_any g e2 w' (ZR.out.below hb).st.c1)
            have HEND : Hid (∀ w', Below w7.heap.size w7 w' → Calls Try.prog 19 #[.pointer (some ⟨g, 0, none⟩)] w' fun r w'' => r = .returned (.int .i64 (endS (b.drop at2) e2)) ∧ w' = w'') := Lib.hid (fun w' hb => End_any g A4 c4 (b.drop at2) e2 w' (ZR.out.below hb).st)
            have HREN : Hid (∀ w', Calls Try.prog 20 #[.agg #[.slice A b.length c, .int .i64 at2, .int .i64 e2]] w' fun r w'' => r = .returned (.int .i64 (endS (b.drop at2) e2)) ∧ Below w'.heap.size w' w'') := Lib.hid (fun w' => REnd_any A c b at2 e2 w' h3 _ rfl)
            have KEEP3 : Hid (∀ w', Below w7.heap.size w7 w' → Below w7.heap.size w7 w' ∧ w'.cell? ⟨gx, 0, none⟩ = some (.slice A b.length c) ∧ w'.cell? ⟨gx, 1, none⟩ = some (.int .i64 at2) ∧ w'.cell? ⟨gx, 2, none⟩ = some (.int .i64 e2)) := Lib.hid (fun w' hb => ⟨hb, (ZV.out.below hb).k1, (ZV.out.below hb).k2, (ZV.out.below hb).k3⟩)
            generalize endS (b.drop at2) e2 = en at *
            go_region_held (fun w' => Below w7.heap.size w7 w' ∧ w'.cell? ⟨gx, 0, none⟩ = some (.slice A b.length c) ∧ w'.cell? ⟨gx, 1, none⟩ = some (.int .i64 at2) ∧ w'.cell? ⟨gx, 2, none⟩ = some (.int .i64 e2))
              (first
                | exact KEEP3.out _ (Below.refl _ _).drew
                | assumption
                | exact KEEP3.out _ (by assumption))
              (first
                | (go_at_call 18; refine (HERR.out _ ((by assumption : Below w7.heap.size w7 _ ∧ _)).1).mono ?_; rintro r w' ⟨rfl, rfl⟩)
                | (go_at_call 19; refine (HEND.out _ ((by assumption : Below w7.heap.size w7 _ ∧ _)).1).mono ?_; rintro r w' ⟨rfl, rfl⟩)
                | (go_at_call 20; have hS0 := ((by assumption : Below w7.heap.size w7 _ ∧ _)).1; refine (HREN.out _).mono ?_; rintro r w8 ⟨rfl, hb8⟩; have hB8 : Below w7.heap.size w7 w8 := below_two hS0 hb8; clear hS0))
            all_goals
              have hF := ((by assumption : Below w7.heap.size w7 _ ∧ _)).1
              have hw7 : w1.heap.size ≤ w7.heap.size := ZW1.out.size
              have FR := Lib.hid (ZR.out.below hF)
              have FV := Lib.hid (ZV.out.below hF)
              have FM := Lib.hid (ZM.out.below hF)
              have FW := Lib.hid (ZW1.out.trans (hF.mono hw7))
              go_wp2
              go_roundw
              case rel => exact ⟨k + 1, at2, e2, A4, c4, by go_num, by omega, h3, FR, FM, FV, FW⟩
              case measure => simp [intOf] <;> omega
        · obtain ⟨BX, XW⟩ := box_new_b hB6 (ty := 31) (x0 := .slice A b.length c) (x1 := at2) (x2 := e2)
          have hN : wr.heap.size ≤ w6.heap.size := hB6.size
          clear hb6 hB6
          generalize (w6.alloc (.cells #[.slice A b.length c, .int .i64 at2, .int .i64 e2] 31)) = wX at *
          generalize w6.heap.size = N at *
          subst h4
          have XR := Lib.hid (HR.out.below XW)
          have XV := Lib.hid (HV.out.below XW)
          have XM := Lib.hid (HM.out.below XW)
          have XW1R := Lib.hid (XW.mono hr1)
          have XW1 := Lib.hid (HW.out.trans (XW.mono hr1))
          have hxx : w1.heap.size ≤ wX.heap.size := by have := XW.size; omega
          clear KEEP HT HTA HTD HR HV HM XW
          obtain ⟨q1, q2, q3, q4, q5, q6⟩ := BX
          obtain ⟨k1, k2, k3, k4, k5, k6⟩ := XV.out
          go_wp2_with fail
          clear q1 q2 q3 q4 q5 q6 k1 k2 k3 k4 k5 k6
          have YV : Hid (BoxV (((wX.setCell ⟨gx, 0, none⟩ (.slice A b.length c)).setCell ⟨gx, 1, none⟩ (.int .i64 at2)).setCell ⟨gx, 2, none⟩ (.int .i64 e2)) gx (.slice A b.length c) at2 e2) := Lib.hid (XV.out.put _ _ _)
          have YO := (((Only.refl gx wX).setCell 0 (.slice A b.length c)).setCell 1 (.int .i64 at2)).setCell 2 (.int .i64 e2)
          have YR := Lib.hid (XR.out.other XM.out YO hx1 hgg)
          have YM := Lib.hid (XM.out.only YO hx1)
          have KWY : Hid (∀ w', Below w1.heap.size (((wX.setCell ⟨gx, 0, none⟩ (.slice A b.length c)).setCell ⟨gx, 1, none⟩ (.int .i64 at2)).setCell ⟨gx, 2, none⟩ (.int .i64 e2)) w' → w'.cell? ⟨(ad.add (k * 3)).block, (ad.add (k * 3)).off + 1, none⟩ = some (.int .i64 lo) ∧ w'.cell? ⟨(ad.add (k * 3)).block, (ad.add (k * 3)).off + 2, none⟩ = some (.int .i64 hi)) := Lib.hid (fun w' hb => KW.out w' ((XW1R.out.trans (YO.below hx1 hxx)).trans hb))
          have YW1 := Lib.hid (XW1.out.trans (YO.below hx1 hxx))
          have yx : w1.heap.size ≤ (((wX.setCell ⟨gx, 0, none⟩ (.slice A b.length c)).setCell ⟨gx, 1, none⟩ (.int .i64 at2)).setCell ⟨gx, 2, none⟩ (.int .i64 e2)).heap.size := Nat.le_trans hxx YO.size
          clear YO XR XV XM XW1 XW1R
          generalize (((wX.setCell ⟨gx, 0, none⟩ (.slice A b.length c)).setCell ⟨gx, 1, none⟩ (.int .i64 at2)).setCell ⟨gx, 2, none⟩ (.int .i64 e2)) = wY at *
          have KEEP2 : Hid (∀ w', Only g wY w' → Only g wY w' ∧ w'.cell? ⟨(ad.add (k * 3)).block, (ad.add (k * 3)).off + 1, none⟩ = some (.int .i64 lo) ∧ w'.cell? ⟨(ad.add (k * 3)).block, (ad.add (k * 3)).off + 2, none⟩ = some (.int .i64 hi)) := Lib.hid (fun w' ho => ⟨ho, KWY.out w' (ho.below hg1 yx)⟩)
          have HCALL := Lib.hid (RdNum_dat g A' c' (b.drop at_) e lo hi wY.drew (YR.out.below (Below.refl _ _).drew) t (b.drop at2) e2 HQ.out (by rw [List.length_drop]; omega))
          go_region_held (fun w' => Only g wY w' ∧ w'.cell? ⟨(ad.add (k * 3)).block, (ad.add (k * 3)).off + 1, none⟩ = some (.int .i64 lo) ∧ w'.cell? ⟨(ad.add (k * 3)).block, (ad.add (k * 3)).off + 2, none⟩ = some (.int .i64 hi))
            (first
              | exact KEEP2.out _ (Only.refl g wY).drew
              | assumption
              | exact KEEP2.out _ (by assumption))
            ((go_at_call 17; (with_reducible refine HCALL.out.mono ?_); rintro r w7 ⟨rfl, A4, c4, hk4, ho4⟩; have hO7 : Only g wY w7 := (Only.refl g wY).drew.trans ho4))
          all_goals
            have ZR := Lib.hid hk4.r
            have ZM : Hid (DatM w7 w1.heap.size A4 c4 (b.drop at2)) := Lib.hid (fun B hB => hk4.k B (((YM.out B hB).only (Only.of (Below.refl _ _).drew))))
            have ZV := Lib.hid (YV.out.only hO7 hgg.symm)
            have ZW1 := Lib.hid (YW1.out.trans (hO7.below hg1 yx))
            clear hk4 ho4 hO7 KEEP2 HCALL YR YM YV YW1 KW KWY
            go_wp2_with fail
            have HERR : Hid (∀ w', Below w7.heap.size w7 w' → Calls Try.prog 18 #[.pointer (some ⟨g, 0, none⟩)] w' fun r w'' => r = .returned (.int .i64 e2) ∧ w' = w'') := Lib.hid (fun w' hb => Err_any g e2 w' (ZR.out.below hb).st.c1)
            have HEND : Hid (∀ w', Below w7.heap.size w7 w' → Calls Try.prog 19 #[.pointer (some ⟨g, 0, none⟩)] w' fun r w'' => r = .returned (.int .i64 (endS (b.drop at2) e2)) ∧ w' = w'') := Lib.hid (fun w' hb => End_any g A4 c4 (b.drop at2) e2 w' (ZR.out.below hb).st)
            have HREN : Hid (∀ w', Calls Try.prog 20 #[.agg #[.slice A b.length c, .int .i64 at2, .int .i64 e2]] w' fun r w'' => r = .returned (.int .i64 (endS (b.drop at2) e2)) ∧ Below w'.heap.size w' w'') := Lib.hid (fun w' => REnd_any A c b at2 e2 w' h3 _ rfl)
            have KEEP3 : Hid (∀ w', Below w7.heap.size w7 w' → Below w7.heap.size w7 w' ∧ w'.cell? ⟨gx, 0, none⟩ = some (.slice A b.length c) ∧ w'.cell? ⟨gx, 1, none⟩ = some (.int .i64 at2) ∧ w'.cell? ⟨gx, 2, none⟩ = some (.int .i64 e2)) := Lib.hid (fun w' hb => ⟨hb, (ZV.out.below hb).k1, (ZV.out.below hb).k2, (ZV.out.below hb).k3⟩)
            generalize endS (b.drop at2) e2 = en at *
            go_region_held (fun w' => Below w7.heap.size w7 w' ∧ w'.cell? ⟨gx, 0, none⟩ = some (.slice A b.length c) ∧ w'.cell? ⟨gx, 1, none⟩ = some (.int .i64 at2) ∧ w'.cell? ⟨gx, 2, none⟩ = some (.int .i64 e2))
              (first
                | exact KEEP3.out _ (Below.refl _ _).drew
                | assumption
                | exact KEEP3.out _ (by assumption))
              (first
                | (go_at_call 18; refine (HERR.out _ ((by assumption : Below w7.heap.size w7 _ ∧ _)).1).mono ?_; rintro r w' ⟨rfl, rfl⟩)
                | (go_at_call 19; refine (HEND.out _ ((by assumption : Below w7.heap.size w7 _ ∧ _)).1).mono ?_; rintro r w' ⟨rfl, rfl⟩)
                | (go_at_call 20; have hS0 := ((by assumption : Below w7.heap.size w7 _ ∧ _)).1; refine (HREN.out _).mono ?_; rintro r w8 ⟨rfl, hb8⟩; have hB8 : Below w7.heap.size w7 w8 := below_two hS0 hb8; clear hS0))
            all_goals
              have hF := ((by assumption : Below w7.heap.size w7 _ ∧ _)).1
              have hw7 : w1.heap.size ≤ w7.heap.size := ZW1.out.size
              have FR := Lib.hid (ZR.out.below hF)
              have FV := Lib.hid (ZV.out.below hF)
              have FM := Lib.hid (ZM.out.below hF)
              have FW := Lib.hid (ZW1.out.trans (hF.mono hw7))
              go_wp2
              go_roundw
              case rel => exact ⟨k + 1, at2, e2, A4, c4, by go_num, by omega, h3, FR, FM, FV, FW⟩
              case measure => simp [intOf] <;> omega
    · obtain rfl : k = l.length := by omega
      obtain ⟨k1, k2, k3, k4, k5, k6⟩ := HV.out
      have HERR : Hid (∀ w', Below wr.heap.size wr w' → Calls Try.prog 18 #[.pointer (some ⟨g, 0, none⟩)] w' fun r w'' => r = .returned (.int .i64 e) ∧ w' = w'') := Lib.hid (fun w' hb => Err_any g e w' (HR.out.below hb).st.c1)
      have hBL := Lib.hid (below_two HB.out HW.out)
      have KEEP : Hid (∀ w', Below wr.heap.size wr w' → Below wr.heap.size wr w' ∧ w'.cell? ⟨gx, 2, none⟩ = some (.int .i64 e)) := Lib.hid (fun w' hb => ⟨hb, (HV.out.below hb).k3⟩)
      clear HL1
      go_wp2_with fail
      go_region_held (fun w' => Below wr.heap.size wr w' ∧ w'.cell? ⟨gx, 2, none⟩ = some (.int .i64 e))
        (first
          | exact KEEP.out _ (Below.refl _ _).drew
          | assumption)
        ((go_at_call 18; refine (HERR.out _ ((by assumption : Below wr.heap.size wr _ ∧ _)).1).mono ?_; rintro r w' ⟨rfl, rfl⟩))
      all_goals
        have hF := ((by assumption : Below wr.heap.size wr _ ∧ _)).1
        have FF := Lib.hid (below_two hBL.out hF)
        go_wp2
        go_ret
        exact ⟨rfl, FF.out⟩
end Go.Proofs.Ytaegphgjdffgaaa
