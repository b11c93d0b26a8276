/- The walk of NamesHides. -/
import Derived.Test.YtheknfppofmneaaLaws07
import Derived.Test.YtheknfppofmneaaStepApp
import Derived.Deep.RegionHeldLaw
namespace Go.Proofs.Ytheknfppofmneaa
open Go.RowKit

theorem findN_snoc (l : List Wd) (x : Wd) (f : ByteArray) : findN (l ++ [x]) f = if isW f x then (l.length : Int) else findN l f := by
  unfold findN
  rw [List.reverse_append, List.reverse_singleton, List.singleton_append, List.findIdx_cons, List.length_append, List.length_singleton]
  cases isW f x with
  | true => simp
  | false =>
    simp
    omega
theorem keep4 {w w' : World} {g : Nat} {v0 v1 v2 v3 : Value} (h0 : w.cell? ⟨g, 0, none⟩ = some v0) (h1 : w.cell? ⟨g, 1, none⟩ = some v1) (h2 : w.cell? ⟨g, 2, none⟩ = some v2) (h3 : w.cell? ⟨g, 3, none⟩ = some v3) (hb : Below w.heap.size w w') :
    Below w.heap.size w w' ∧ w'.cell? ⟨g, 0, none⟩ = some v0 ∧ w'.cell? ⟨g, 1, none⟩ = some v1 ∧ w'.cell? ⟨g, 2, none⟩ = some v2 ∧ w'.cell? ⟨g, 3, none⟩ = some v3 := by
  have hg : g < w.heap.size := World.block_lt_of_cell? w _ h0
  exact ⟨hb, (hb.cell hg).trans h0, (hb.cell hg).trans h1, (hb.cell hg).trans h2, (hb.cell hg).trans h3⟩
theorem own_ne {a b n c : Nat} (h : a ≠ b) : (Value.slice (some ⟨a, 0, none⟩) n c).ownBlock ≠ some b := by
  intro e
  simp [Value.ownBlock] at e
  exact h e
theorem rd_grown {w w' : World} {g n c size : Nat} {cs : List Value} {row : Option Nat} (h : Rd w (some ⟨g, 0, none⟩) n c size cs) (hg : w.grownBy w' row) (hr : row ≠ some g) : Rd w' (some ⟨g, 0, none⟩) n c size cs :=
  ⟨h.len, h.le, h.cap, h.nil, fun j u hj => by
    obtain ⟨ad, e, hc⟩ := h.cell j u hj
    cases e
    refine ⟨_, rfl, ?_⟩
    rw [Addr.add_lit] at hc ⊢
    have hlt := World.block_lt_of_cell? w _ hc
    exact (World.cell?_of_block (w := w) (hg.block g hlt (fun e => hr e.symm))).trans hc⟩

set_option maxHeartbeats 2000000 in
set_option maxRecDepth 100000 in
theorem NamesHides_walk (A : Option Addr) (c : Nat) (l : List Wd) (x : Wd) (name : ByteArray) (w : World) (hx : RdW w A c l) (hm : x.nm.size ≤ maxLen) (hn : name.size ≤ maxLen) :
    Calls Try.prog 5 #[.slice A l.length c, .agg (encW x).toArray, .string name] w fun e w' => e = .returned (.bool true) ∧ Below w.heap.size w w' := by
  unfold maxLen at hm hn
  obtain ⟨nm, code, now, hid⟩ := x
  change Calls Try.prog 5 #[.slice A l.length c, .agg #[.string nm, .int .i64 code, .bool now, .bool hid], .string name] w _
  simp only at hm
  have hle := hx.le
  have hcap := hx.cap
  unfold maxLen at hcap
  have HX := Lib.hid (hx.below (below_lit w (.cells #[.string nm, .int .i64 code, .bool now, .bool hid] 31)))
  have HB := Lib.hid (below_lit w (.cells #[.string nm, .int .i64 code, .bool now, .bool hid] 31))
  clear hx
  go_enter Try.func5, Try.ntmps5
  go_wp2_with fail
  refine (awake_any _).mono ?_
  rintro e w1 ⟨rfl, hb⟩
  (replace HX := Lib.hid (Rd.below (Hid.out HX) hb))
  have g0 : w1.cell? ⟨w.heap.size, 0, none⟩ = some (.string nm) := (hb.cell (p := ⟨w.heap.size, 0, none⟩) (by simp)).trans (by simp)
  have g1 : w1.cell? ⟨w.heap.size, 1, none⟩ = some (.int .i64 code) := (hb.cell (p := ⟨w.heap.size, 1, none⟩) (by simp)).trans (by simp)
  have g2 : w1.cell? ⟨w.heap.size, 2, none⟩ = some (.bool now) := (hb.cell (p := ⟨w.heap.size, 2, none⟩) (by simp)).trans (by simp)
  have g3 : w1.cell? ⟨w.heap.size, 3, none⟩ = some (.bool hid) := (hb.cell (p := ⟨w.heap.size, 3, none⟩) (by simp)).trans (by simp)
  have HB := Lib.hid (below_two HB.out hb)
  clear hb
  go_wp2_with fail
  cases hfe : fewW l with
  | false =>
    refine (Few_any A c l false _ hfe HX.out).mono ?_
    rintro e w' ⟨rfl, rfl⟩
    go_wp2
    go_ret
    exact ⟨rfl, HB.out⟩
  | true =>
    refine (Few_any A c l true _ hfe HX.out).mono ?_
    rintro e w' ⟨rfl, rfl⟩
    obtain ⟨h30, h60⟩ := fewW_yes hfe
    have HS : Hid (∀ x ∈ l, x.nm.size ≤ 140737488355327) := Lib.hid (fun x hx => by have := h60 x hx; omega)
    clear h60
    by_cases hl : 60 < name.size
    · go_wp2
      go_ret
      exact ⟨rfl, HB.out⟩
    by_cases hl2 : 60 < nm.size
    · go_wp2
      go_ret
      exact ⟨rfl, HB.out⟩
    have hk4 := Lib.hid (fun w' hb => keep4 (w' := w') g0 g1 g2 g3 hb)
    have HXA := Lib.hid HX.out
    have OA : Hid ((w1.alloc (.cells #[] 31)).drew.ownsRow w1.heap.size 31 4 (.slice (some ⟨w1.heap.size, 0, none⟩) 0 0) 0 []) := Lib.hid (own_below (own_empty (heap_alloc_new _ _) (Nat.le_refl _)) (Below.refl _ _).drew)
    have OAB : Hid (((w1.alloc (.cells #[] 31)).alloc (.cells #[.string nm, .int .i64 code, .bool now, .bool hid] 31)).drew.ownsRow w1.heap.size 31 4 (.slice (some ⟨w1.heap.size, 0, none⟩) 0 0) 0 []) := Lib.hid (own_below (own_below (own_empty (heap_alloc_new w1 _) (Nat.le_refl _)) (below_lit _ (.cells #[.string nm, .int .i64 code, .bool now, .bool hid] 31))) (Below.refl _ _).drew)
    have OBA : Hid (((w1.alloc (.cells #[.string nm, .int .i64 code, .bool now, .bool hid] 31)).alloc (.cells #[] 31)).drew.ownsRow w1.heap.size 31 4 (.slice (some ⟨w1.heap.size + 1, 0, none⟩) 0 0) 0 []) := Lib.hid (own_below (by
      have := own_empty (w := (w1.alloc (.cells #[.string nm, .int .i64 code, .bool now, .bool hid] 31)).alloc (.cells #[] 31)) (B := w1.heap.size) (e := 31) (size := 4) (heap_alloc_new (w1.alloc (.cells #[.string nm, .int .i64 code, .bool now, .bool hid] 31)) _) (by simp)
      rw [show (w1.alloc (.cells #[.string nm, .int .i64 code, .bool now, .bool hid] 31)).heap.size = w1.heap.size + 1 by simp] at this
      exact this) (Below.refl _ _).drew)
    have RAB : Hid (Rd ((w1.alloc (.cells #[] 31)).alloc (.cells #[.string nm, .int .i64 code, .bool now, .bool hid] 31)).drew (some ⟨w1.heap.size + 1, 0, none⟩) 1 1 4 (encW ⟨nm, code, now, hid⟩)) := Lib.hid (Rd.below (by
      have := rd_alloc (w1.alloc (.cells #[] 31)) (encW ⟨nm, code, now, hid⟩) #[.string nm, .int .i64 code, .bool now, .bool hid] 31 (0, 0) 1 1 4 rfl rfl (by decide) (by decide)
      rw [show (w1.alloc (.cells #[] 31)).heap.size = w1.heap.size + 1 by simp] at this
      exact this) (Below.refl _ _).drew)
    have RBA : Hid (Rd ((w1.alloc (.cells #[.string nm, .int .i64 code, .bool now, .bool hid] 31)).alloc (.cells #[] 31)).drew (some ⟨w1.heap.size, 0, none⟩) 1 1 4 (encW ⟨nm, code, now, hid⟩)) := Lib.hid (Rd.below (Rd.below (rd_alloc w1 (encW ⟨nm, code, now, hid⟩) #[.string nm, .int .i64 code, .bool now, .bool hid] 31 (0, 0) 1 1 4 rfl rfl (by decide) (by decide)) (below_lit _ (.cells #[] 31))) (Below.refl _ _).drew)
    have BA : Hid (Below w1.heap.size w1 (w1.alloc (.cells #[] 31)).drew) := Lib.hid (below_lit _ _).drew
    have BAB : Hid (Below w1.heap.size w1 ((w1.alloc (.cells #[] 31)).alloc (.cells #[.string nm, .int .i64 code, .bool now, .bool hid] 31)).drew) := Lib.hid (below_two (below_lit _ _) (below_lit _ _)).drew
    have BBA : Hid (Below w1.heap.size w1 ((w1.alloc (.cells #[.string nm, .int .i64 code, .bool now, .bool hid] 31)).alloc (.cells #[] 31)).drew) := Lib.hid (below_two (below_lit _ _) (below_lit _ _)).drew
    have WC := Lib.hid (wcells_one l)
    have WX : Hid (∀ u ∈ encW ⟨nm, code, now, hid⟩, u.oneCell' = true) := Lib.hid (by intro u hu; simp [encW] at hu; rcases hu with rfl | rfl | rfl | rfl <;> rfl)
    go_wp2_with fail
    go_region_held_law (fun w' => Below w1.heap.size w1 w' ∧ w'.cell? ⟨w.heap.size, 0, none⟩ = some (.string nm) ∧ w'.cell? ⟨w.heap.size, 1, none⟩ = some (.int .i64 code) ∧ w'.cell? ⟨w.heap.size, 2, none⟩ = some (.bool now) ∧ w'.cell? ⟨w.heap.size, 3, none⟩ = some (.bool hid))
      (first
        | assumption
        | exact hk4.out _ hb2
        | exact hk4.out _ hb
        | exact hk4.out _ (Below.refl _ _).drew
        | exact hk4.out _ (below_lit _ _).drew
        | exact hk4.out _ (below_two (below_lit _ _) (below_lit _ _)).drew
        | exact hk4.out _ (below_two hb (below_lit _ _)))
      (first
        | ((refine step_app (w0 := w1) rfl (.tmp 27) (.tmp 28) 26 31 _ 4 32 rfl Try.underlying26 infoW rfl (by decide) (by decide) w1.heap.size _ 0 [] rfl OAB.out A l.length c (wcells l) rfl (HXA.out.below BAB.out) WC.out (by omega) BAB.out.size BAB.out ?_); intro v1 w2 ho hb hg; rw [Nat.zero_add, List.nil_append] at ho; have hrl := rd_grown RAB.out hg (own_ne (by omega)); have hbs := hb.size; clear hg)
        | ((refine step_app (w0 := w1) rfl (.tmp 27) (.tmp 28) 26 31 _ 4 32 rfl Try.underlying26 infoW rfl (by decide) (by decide) w1.heap.size _ 0 [] rfl OBA.out A l.length c (wcells l) rfl (HXA.out.below BBA.out) WC.out (by omega) BBA.out.size BBA.out ?_); intro v1 w2 ho hb hg; rw [Nat.zero_add, List.nil_append] at ho; have hrl := rd_grown RBA.out hg (own_ne (by omega)); have hbs := hb.size; clear hg)
        | ((refine step_app (w0 := w1) rfl (.tmp 27) (.tmp 28) 26 31 _ 4 32 rfl Try.underlying26 infoW rfl (by decide) (by decide) w1.heap.size _ 0 [] rfl OA.out A l.length c (wcells l) rfl (HXA.out.below BA.out) WC.out (by omega) BA.out.size BA.out ?_); intro v1 w2 ho hb hg; rw [Nat.zero_add, List.nil_append] at ho; have hbs := hb.size; clear hg)
        | ((refine step_app (w0 := w1) rfl (.tmp 29) (.tmp 31) 26 31 _ 4 32 rfl Try.underlying26 infoW rfl (by decide) (by decide) w1.heap.size _ l.length (wcells l) rfl ho _ 1 1 (encW ⟨nm, code, now, hid⟩) rfl hrl WX.out (by omega) hb.size hb ?_); intro v2 w3 ho2 hb2 _; clear ho hb)
        | ((refine step_app (w0 := w1) rfl (.tmp 29) (.tmp 31) 26 31 _ 4 32 rfl Try.underlying26 infoW rfl (by decide) (by decide) w1.heap.size _ l.length (wcells l) rfl (ho.alloc _) _ 1 1 (encW ⟨nm, code, now, hid⟩) rfl (rd_alloc w2 (encW ⟨nm, code, now, hid⟩) #[.string nm, .int .i64 code, .bool now, .bool hid] 31 (0, 0) 1 1 4 rfl rfl (by decide) (by decide)) WX.out (by omega) (hb.alloc hb.size _).size (hb.alloc hb.size _) ?_); intro v2 w3 ho2 hb2 _; clear ho hb))
    all_goals
      have g0 := (hb2.cell (World.block_lt_of_cell? w1 _ g0)).trans g0
      have g3 := (hb2.cell (World.block_lt_of_cell? w1 _ g3)).trans g3
      obtain ⟨A2, c2, rfl, hr⟩ := Rd.own ho2
      have HM : Hid (RdW w3 A2 c2 (l ++ [⟨nm, code, now, hid⟩])) := Lib.hid (by
        show Rd w3 A2 (l ++ [_]).length c2 4 _
        rw [wcells_app, List.length_append, List.length_singleton]
        simpa [wcells] using hr)
      have HX3 := Lib.hid (HXA.out.below hb2)
      have HB3 := Lib.hid (below_two HB.out hb2)
      clear ho2 hb2 hr
      have HS2 : Hid (∀ x ∈ l ++ [(⟨nm, code, now, hid⟩ : Wd)], x.nm.size ≤ 140737488355327) := Lib.hid (fun x hx => by
        rcases List.mem_append.1 hx with hx | hx
        · exact HS.out x hx
        · rw [List.mem_singleton] at hx
          subst hx
          show nm.size ≤ _
          omega)
      obtain ⟨r, hrr⟩ : ∃ r, findN (l ++ [(⟨nm, code, now, hid⟩ : Wd)]) (foldB name) = r := ⟨_, rfl⟩
      have hrs := hrr
      rw [findN_snoc] at hrs
      have HR := Lib.hid hrr
      have hf1 := foldB_size nm
      have hf2 := foldB_size name
      have hfl := findN_lt l (foldB name)
      clear hrr
      cases hid with
      | true =>
        have hr2 : findN l (foldB name) = r := by rw [← hrs]; rfl
        have HR2 := Lib.hid hr2
        clear hrs hr2
        go_wp2_with fail
        refine (Find_is A2 c2 (l.length + 1) (l ++ [(⟨nm, code, now, true⟩ : Wd)]) name r w3 (by simp) HR.out HM.out (by omega) HS2.out (by omega)).mono ?_
        rintro e w4 ⟨rfl, hb⟩
        (replace HX3 := Lib.hid (Rd.below (Hid.out HX3) hb))
        have HB4 := Lib.hid (below_two HB3.out hb)
        clear hb
        go_wp2_with fail
        refine (Find_is A c l.length l name r w4 rfl HR2.out HX3.out (by omega) HS.out (by omega)).mono ?_
        rintro e w5 ⟨rfl, hb⟩
        have HB5 := Lib.hid (below_two HB4.out hb)
        clear hb
        go_wp2
        go_ret
        exact ⟨rfl, HB5.out⟩
      | false =>
        go_wp2_with fail
        refine (Fold_is nm (foldB nm) _ rfl (by omega)).mono ?_
        rintro e w4 ⟨rfl, hb⟩
        (replace HX3 := Lib.hid (Rd.below (Hid.out HX3) hb); replace HM := Lib.hid (Rd.below (Hid.out HM) hb))
        have HB4 := Lib.hid (below_two HB3.out hb)
        clear hb
        go_wp2_with fail
        refine (Fold_is name (foldB name) _ rfl (by omega)).mono ?_
        rintro e w5 ⟨rfl, hb⟩
        (replace HX3 := Lib.hid (Rd.below (Hid.out HX3) hb); replace HM := Lib.hid (Rd.below (Hid.out HM) hb))
        have HB5 := Lib.hid (below_two HB4.out hb)
        clear hb
        by_cases heq : foldB nm = foldB name
        · have hw : isW (foldB name) ⟨nm, code, now, false⟩ = true := by simp [isW, heq]
          rw [hw, if_pos rfl] at hrs
          have heb : ((foldB nm).toList == (foldB name).toList) = true := by rw [heq]; simp
          clear heq hw
          generalize foldB nm = f1 at *
          generalize hfn : foldB name = f2 at *
          subst hrs
          have HFN := Lib.hid hfn
          clear hfn
          go_wp2_with fail
          refine (Find_is A2 c2 (l.length + 1) (l ++ [(⟨nm, code, now, false⟩ : Wd)]) name l.length w5 (by simp) (by rw [HFN.out]; exact HR.out) HM.out (by omega) HS2.out (by omega)).mono ?_
          rintro e w6 ⟨rfl, hb⟩
          have HB6 := Lib.hid (below_two HB5.out hb)
          clear hb
          go_wp2
          go_ret
          exact ⟨rfl, HB6.out⟩
        · have hw : isW (foldB name) ⟨nm, code, now, false⟩ = false := by simp [isW, heq]
          rw [hw, if_neg (by decide)] at hrs
          have heb : ((foldB nm).toList == (foldB name).toList) = false := by
            rw [beq_eq_false_iff_ne]
            intro e
            rw [ByteArray.toList_eq, ByteArray.toList_eq] at e
            exact heq (ByteArray.ext (Array.toList_inj.1 e))
          have HR2 := Lib.hid hrs
          clear heq hw hrs
          generalize foldB nm = f1 at *
          generalize hfn : foldB name = f2 at *
          have HFN := Lib.hid hfn
          clear hfn
          go_wp2_with fail
          refine (Find_is A2 c2 (l.length + 1) (l ++ [(⟨nm, code, now, false⟩ : Wd)]) name r w5 (by simp) (by rw [HFN.out]; exact HR.out) HM.out (by omega) HS2.out (by omega)).mono ?_
          rintro e w6 ⟨rfl, hb⟩
          (replace HX3 := Lib.hid (Rd.below (Hid.out HX3) hb))
          have HB6 := Lib.hid (below_two HB5.out hb)
          clear hb
          go_wp2_with fail
          refine (Find_is A c l.length l name r w6 rfl (by rw [HFN.out]; exact HR2.out) HX3.out (by omega) HS.out (by omega)).mono ?_
          rintro e w7 ⟨rfl, hb⟩
          have HB7 := Lib.hid (below_two HB6.out hb)
          clear hb
          go_wp2
          go_ret
          exact ⟨rfl, HB7.out⟩
end Go.Proofs.Ytheknfppofmneaa
