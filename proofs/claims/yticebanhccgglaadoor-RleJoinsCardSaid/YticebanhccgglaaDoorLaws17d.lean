
/- The walk of RleJoins. -/
import Derived.Test.YticebanhccgglaaDoorAwake17
import Derived.Test.YticebanhccgglaaDoorPlain17e
import Derived.Deep.RegionHeld
import Derived.BigQuiet
namespace Go.Proofs.YticebanhccgglaaDoor
open Go.RowKit

/-- Are they apart? -/
def apartB (a b : List Int) : Bool := decide (a.length = 0) || (decide (b.length = 0) || !(a.getD (a.length - 1) 0 == b.getD 0 0))
theorem nums_app17 (a b : List Int) : nums .u8 a ++ nums .u8 b = nums .u8 (a ++ b) := by simp [nums]
theorem own_new17 (w : World) : (w.alloc (.cells #[] 5)).ownsRow w.heap.size 5 1 (.slice (some ⟨w.heap.size, 0, none⟩) 0 0) 0 [] := own_empty (heap_alloc_new _ _) (Nat.le_refl _)
theorem joins (a b : List Int) (ha : ∀ z ∈ a, 0 ≤ z ∧ z < 256) (hb : ∀ z ∈ b, 0 ≤ z ∧ z < 256) (hl : a.length + b.length ≤ 1000000) :
    ((strOf (putR (a ++ b))).toList == (strOf (putR a ++ putR b)).toList) = apartB a b := by
  have hab : ∀ z ∈ a ++ b, 0 ≤ z ∧ z < 256 := fun z hz => (List.mem_append.1 hz).elim (ha z) (hb z)
  by_cases h : ∃ z, a.getLast? = some z ∧ b.head? = some z
  · obtain ⟨z, h1, h2⟩ := h
    have hne := putR_joined h1 h2 hl
    have hne2 : strOf (putR (a ++ b)) ≠ strOf (putR a ++ putR b) := fun e => hne (strOf_inj (putR_range _ _ (Nat.le_refl _) hab) (fun z hz => (List.mem_append.1 hz).elim (putR_range _ _ (Nat.le_refl _) ha z) (putR_range _ _ (Nat.le_refl _) hb z)) e)
    have e1 : apartB a b = false := by
      cases b with
      | nil => simp at h2
      | cons y r =>
        rw [List.getLast?_eq_getElem?] at h1
        have hy : y = z := by simpa using h2
        have h0 : a.length ≠ 0 := by
          intro h0
          rw [List.eq_nil_of_length_eq_zero h0] at h1
          simp at h1
        unfold apartB
        rw [List.getD_eq_getElem?_getD, h1]
        simp [h0, hy]
    rw [e1]
    rw [beq_eq_false_iff_ne]
    intro e
    rw [ByteArray.toList_eq, ByteArray.toList_eq] at e
    exact hne2 (ByteArray.ext (Array.toList_inj.1 e))
  · have he := putR_apart a.length a b (Nat.le_refl _) (fun z h1 h2 => h ⟨z, h1, h2⟩)
    rw [he]
    have e1 : apartB a b = true := by
      cases hb2 : b with
      | nil => simp [apartB]
      | cons y r =>
        by_cases h0 : a.length = 0
        · simp [apartB, h0]
        · have hla : a.getLast? = some (a.getD (a.length - 1) 0) := by
            rw [List.getLast?_eq_getElem?, List.getD_eq_getElem?_getD, List.getElem?_eq_getElem (by omega)]
            rfl
          have : a.getD (a.length - 1) 0 ≠ y := fun e => h ⟨y, by rw [hla, e], by rw [hb2]; rfl⟩
          unfold apartB
          rw [List.getD_eq_getElem?_getD] at this
          simp [h0, this]
    rw [e1]
    exact beq_self_eq_true _

set_option maxHeartbeats 4000000 in
set_option maxRecDepth 100000 in
theorem RleJoins_walk (A : Option Addr) (c : Nat) (a : List Int) (B : Option Addr) (cb : Nat) (b : List Int) (m : Int) (w : World) (hx : RdI w .u8 A c a) (ha : ∀ x ∈ a, 0 ≤ x ∧ x < 256) (hy : RdI w .u8 B cb b) (hb : ∀ x ∈ b, 0 ≤ x ∧ x < 256) (hm0 : 0 ≤ m) (hm1 : m < 256) :
    Calls Tryd.prog 7 #[.slice A a.length c, .slice B b.length cb, .int .u8 m] w fun e w' => e = .returned (.bool true) ∧ Below w.heap.size w w' := by
  obtain ⟨na, hna⟩ : ∃ n, a.length = n := ⟨_, rfl⟩
  obtain ⟨nb, hnb⟩ : ∃ n, b.length = n := ⟨_, rfl⟩
  obtain ⟨mm, hmm⟩ : ∃ mm : Nat, m = mm := ⟨m.toNat, by omega⟩
  subst hmm
  have hx' : Rd w A na c 1 (nums .u8 a) := by rw [← hna]; exact hx
  have hy' : Rd w B nb cb 1 (nums .u8 b) := by rw [← hnb]; exact hy
  have HX := Lib.hid hx'
  have HY := Lib.hid hy'
  have HAR := Lib.hid ha
  have HBR := Lib.hid hb
  have HNA := Lib.hid hna
  have HNB := Lib.hid hnb
  have hle := hx'.le
  have hcm := hx'.cap
  have hle' := hy'.le
  have hcm' := hy'.cap
  unfold maxLen at hcm hcm'
  rw [hna, hnb]
  have hwm : IntKind.i64.wrap (mm : Int) = (mm : Int) := by rw [IntKind.wrap_i64]; omega
  clear hx hb hna hx' hy hy' hnb ha
  go_enter Tryd.func7, Tryd.ntmps7
  go_wp2_with fail
  refine (awake_any w).mono ?_
  rintro e w1 ⟨rfl, hb⟩
  have HB := Lib.hid hb
  have HX1 := Lib.hid (HX.out.below hb)
  have HY1 := Lib.hid (HY.out.below hb)
  clear hb HX HY
  by_cases h300 : 300 < na
  · go_wp2
    go_ret
    exact ⟨rfl, HB.out⟩
  by_cases h301 : 300 < nb
  · go_wp2
    go_ret
    exact ⟨rfl, HB.out⟩
  have HO := Lib.hid (own_new17 w1)
  have HBA := Lib.hid (below_lit w1 (.cells #[] 5))
  have HXa := Lib.hid (HX1.out.below HBA.out)
  go_wp2_with (refine wp_app (w0 := w1) rfl (.tmp 22) (.tmp 23) 22 5 (.int .u8 0) 1 1 rfl Tryd.underlying22 infoU8 rfl (by decide) (by decide) w1.heap.size _ 0 [] rfl HO.out A na c (nums .u8 a) rfl HXa.out (nums_one _ _) (by omega) HBA.out.size HBA.out ?_)
  intro v1 w2 ho hb _
  have HO := Lib.hid ho
  have HBA := Lib.hid hb
  have HYa := Lib.hid (HY1.out.below hb)
  clear ho hb HXa
  go_wp2_with (refine wp_app (w0 := w1) rfl (.tmp 24) (.tmp 25) 22 5 (.int .u8 0) 1 1 rfl Tryd.underlying22 infoU8 rfl (by decide) (by decide) w1.heap.size _ na (nums .u8 a) rfl HO.out B nb cb (nums .u8 b) rfl HYa.out (nums_one _ _) (by omega) HBA.out.size HBA.out ?_)
  intro v2 w3 ho hb _
  rw [nums_app17] at ho
  obtain ⟨ns, hns⟩ : ∃ ns, na + nb = ns := ⟨_, rfl⟩
  rw [hns] at ho
  have hns6 : ns ≤ 600 := by omega
  obtain ⟨A3, c3, rfl, hr⟩ := Rd.own ho
  have HR3 := Lib.hid hr
  have HX3 := Lib.hid (HX1.out.below hb)
  have HY3 := Lib.hid (HY1.out.below hb)
  have HB3 := Lib.hid (below_two HB.out hb)
  clear ho hb hr HO HYa HX1 HY1 HBA HB
  obtain ⟨ap, hap⟩ : ∃ ap, apartB a b = ap := ⟨_, rfl⟩
  have HAP := Lib.hid hap
  clear hap
  obtain ⟨PA, hPA⟩ : ∃ P, putR a = P := ⟨_, rfl⟩
  obtain ⟨ka, hka⟩ : ∃ k, PA.length = k := ⟨_, rfl⟩
  obtain ⟨PB, hPB⟩ : ∃ P, putR b = P := ⟨_, rfl⟩
  obtain ⟨kb, hkb⟩ : ∃ k, PB.length = k := ⟨_, rfl⟩
  obtain ⟨PC, hPC⟩ : ∃ P, putR (a ++ b) = P := ⟨_, rfl⟩
  obtain ⟨kc, hkc⟩ : ∃ k, PC.length = k := ⟨_, rfl⟩
  obtain ⟨PO, hPO⟩ : ∃ P, putR (List.replicate (mm + 1) 0) = P := ⟨_, rfl⟩
  obtain ⟨ko, hko⟩ : ∃ k, PO.length = k := ⟨_, rfl⟩
  have hko3 : ko ≤ 3 := by rw [← hko, ← hPO]; exact put_one mm (by omega)
  have hka6 := (putR_le 300 a (by rw [HNA.out]; omega) (by decide)).1
  have hkb6 := (putR_le 300 b (by rw [HNB.out]; omega) (by decide)).1
  rw [hPA, hka, HNA.out] at hka6
  rw [hPB, hkb, HNB.out] at hkb6
  have HJ : Hid (((strOf PC).toList == (strOf (PA ++ PB)).toList) = ap) := Lib.hid (by
    rw [← hPC, ← hPA, ← hPB, joins a b HAR.out HBR.out (by rw [HNA.out, HNB.out]; omega)]
    exact HAP.out)
  have HPA := Lib.hid hPA
  have HPB := Lib.hid hPB
  have HPC := Lib.hid hPC
  have HPO := Lib.hid hPO
  have HKA := Lib.hid hka
  have HKB := Lib.hid hkb
  have HKC := Lib.hid hkc
  have HKO := Lib.hid hko
  have HABL : Hid ((a ++ b).length = ns) := Lib.hid (by rw [List.length_append, HNA.out, HNB.out, hns])
  have HABR : Hid (∀ z ∈ a ++ b, 0 ≤ z ∧ z < 256) := Lib.hid (fun z hz => (List.mem_append.1 hz).elim (HAR.out z) (HBR.out z))
  have hmk := make_nums (P := Tryd.prog) 22 5 .u8 1 Tryd.underlying22 infoU8 (mm + 1) (by omega) (by omega)
  have hw1m : IntKind.i64.wrap (1 + (mm : Int)) = ((mm + 1 : Nat) : Int) := by rw [IntKind.wrap_i64]; omega
  obtain ⟨m1, hm1e⟩ : ∃ m1, mm + 1 = m1 := ⟨_, rfl⟩
  rw [hm1e] at hmk hw1m HPO
  have hm1b : m1 ≤ 256 := by omega
  clear hns hPA hPB hPC hPO hka hkb hkc hko hm1e
  have HCASE : (na = 0 ∧ ap = true) ∨ (0 < na ∧ nb = 0 ∧ ap = true) ∨ ∃ (K : Nat) (ad bd : Addr) (x y : Int), A = some ad ∧ B = some bd ∧ na = K + 1 ∧ 0 < nb ∧ w3.cell? (ad.add K) = some (.int .u8 x) ∧ w3.cell? bd = some (.int .u8 y) ∧ ap = !(x == y) := by
    have hd := HAP.out
    unfold apartB at hd
    rw [HNA.out, HNB.out] at hd
    by_cases h1 : na = 0
    · exact .inl ⟨h1, by rw [← hd]; simp [h1]⟩
    · by_cases h2 : nb = 0
      · exact .inr (.inl ⟨by omega, h2, by rw [← hd]; simp [h2]⟩)
      · obtain ⟨ad, rfl, e0⟩ := RdI.at_ (xs := a) (j := na - 1) (by rw [RdI, HNA.out]; exact HX3.out) (by rw [HNA.out]; omega)
        obtain ⟨bd, rfl, e1⟩ := RdI.at_ (xs := b) (j := 0) (by rw [RdI, HNB.out]; exact HY3.out) (by rw [HNB.out]; omega)
        refine .inr (.inr ⟨na - 1, ad, bd, _, _, rfl, rfl, by omega, by omega, e0, e1, ?_⟩)
        rw [← hd]
        simp [h1, h2]
  have HPI := Lib.hid (fun W (hb : Below w3.heap.size w3 W) => (⟨HR3.out.below hb, HX3.out.below hb, HY3.out.below hb, below_two HB3.out hb⟩ : Rd W A3 ns c3 1 (nums .u8 (a ++ b)) ∧ Rd W A na c 1 (nums .u8 a) ∧ Rd W B nb cb 1 (nums .u8 b) ∧ Below w.heap.size w W))
  clear HX3 HY3 HB3 HR3 HAP
  rcases HCASE with ⟨rfl, rfl⟩ | ⟨h1, rfl, rfl⟩ | ⟨K, ad, bd, x, y, rfl, rfl, hK, hnb0, e0, e1, hap⟩
  · go_wp2_with fail
    go_quiet (fail)
    obtain ⟨w4, hw4⟩ : ∃ w4, w3.drewN nq = w4 := ⟨_, rfl⟩
    have HB34 := Lib.hid (show Below w3.heap.size w3 w4 by rw [← hw4]; exact below_drewN w3 nq)
    rw [hw4]
    clear hw4
    have HM5 : Hid (Rd (w4.alloc (.cells (nums .u8 (List.replicate m1 0)).toArray 5 (0, 0))) (some ⟨w4.heap.size, 0, none⟩) m1 m1 1 (nums .u8 (List.replicate m1 0))) := Lib.hid (rd_alloc w4 _ _ _ _ _ _ _ (by simp) (by simp [nums_length]) (Nat.le_refl _) (by unfold maxLen; omega))
    have HB35 := Lib.hid (below_two HB34.out (below_lit w4 (.cells (nums .u8 (List.replicate m1 0)).toArray 5 (0, 0))))
    have hmk4 := hmk w4
    obtain ⟨w5, hw5⟩ : ∃ w5, w4.alloc (.cells (nums .u8 (List.replicate m1 0)).toArray 5 (0, 0)) = w5 := ⟨_, rfl⟩
    obtain ⟨g5, hg5⟩ : ∃ g5, w4.heap.size = g5 := ⟨_, rfl⟩
    rw [hw5] at hmk4 HM5 HB35
    rw [hg5] at hmk4 HM5
    clear hmk hw5 hg5 HB34
    have HO := Lib.hid (own_new17 w5)
    have HB5 := Lib.hid (below_lit w5 (.cells #[] 5))
    have HX5 := Lib.hid ((HPI.out _ HB35.out).2.1.below HB5.out)
    go_wp2_with fail
    refine (Put_is _ c _ a PA ka _ HNA.out HPA.out HKA.out HX5.out HAR.out (by omega)).mono ?_
    rintro e w6 ⟨A6, c6, rfl, hr, hb⟩
    have HO := Lib.hid (own_below HO.out hb)
    have HR6 := Lib.hid hr
    have HB5 := Lib.hid (below_two HB5.out hb)
    clear hr hb HX5
    go_wp2_with (refine wp_app (w0 := w5) rfl (.tmp 51) (.tmp 53) 22 5 (.int .u8 0) 1 1 rfl Tryd.underlying22 infoU8 rfl (by decide) (by decide) w5.heap.size _ 0 [] rfl HO.out A6 ka c6 (nums .u8 PA) rfl HR6.out (nums_one _ _) (by omega) HB5.out.size HB5.out ?_)
    intro v7 w7 ho hb _
    have HO := Lib.hid ho
    have HB5 := Lib.hid hb
    have HY5 := Lib.hid ((HPI.out _ HB35.out).2.2.1.below hb)
    clear ho hb HR6
    go_wp2_with fail
    refine (Put_is _ cb _ b PB kb _ HNB.out HPB.out HKB.out HY5.out HBR.out (by omega)).mono ?_
    rintro e w8 ⟨A8, c8, rfl, hr, hb⟩
    have HO := Lib.hid (own_below HO.out hb)
    have HR8 := Lib.hid hr
    have HB5 := Lib.hid (below_two HB5.out hb)
    clear hr hb HY5
    go_wp2_with (refine wp_app (w0 := w5) rfl (.tmp 54) (.tmp 56) 22 5 (.int .u8 0) 1 1 rfl Tryd.underlying22 infoU8 rfl (by decide) (by decide) w5.heap.size _ ka (nums .u8 PA) rfl HO.out A8 kb c8 (nums .u8 PB) rfl HR8.out (nums_one _ _) (by omega) HB5.out.size HB5.out ?_)
    intro v9 w9 ho hb _
    rw [nums_app17] at ho
    obtain ⟨A9, c9, rfl, hr⟩ := Rd.own ho
    have HB39 := Lib.hid (below_two HB35.out hb)
    have hcr := conv_all (by rw [List.length_append, HKA.out, HKB.out]) hr
    have HM9 := Lib.hid (HM5.out.below hb)
    have HBZ := Lib.hid (below_two (HPI.out _ HB35.out).2.2.2 hb)
    have HC1 := Lib.hid (fun w' (hb2 : Below w9.heap.size w9 w') => Put_is A3 c3 _ (a ++ b) PC kc w' HABL.out HPC.out HKC.out ((HPI.out _ (below_two HB39.out hb2)).1) HABR.out (by omega))
    have HC2 := Lib.hid (fun w' (hb2 : Below w9.heap.size w9 w') => Put_is (some ⟨g5, 0, none⟩) m1 m1 (List.replicate m1 0) PO ko w' (by simp) HPO.out HKO.out (HM9.out.below hb2) (fun z hz => by rw [List.eq_of_mem_replicate hz]; decide) (by omega))
    have hj := HJ.out
    have hd3 : decide ((ko : Int) ≤ 3) = true := decide_eq_true (by omega)
    clear ho hb HO HR8 HB5 hr
    go_wp2_with fail
    go_region_held (fun w' => Below w9.heap.size w9 w')
      (first
        | exact (Below.refl _ _).drew
        | assumption
        | exact below_two (by assumption) (by assumption))
      (first
        | (go_at_call 9; with_reducible refine (HC1.out _ (by assumption)).mono ?_; rintro e w' ⟨A10, c10, rfl, hr, hb⟩; have hcy := conv_all HKC.out hr; have hrf := Below.refl w'.heap.size w'; clear hr)
        | (go_at_call 9; with_reducible refine (HC2.out _ (by assumption)).mono ?_; rintro e w' ⟨A11, c11, rfl, hr, hb⟩; clear hr))
    all_goals go_wp2
    all_goals go_ret
    all_goals exact ⟨rfl, below_two HBZ.out (by assumption)⟩
  · have bz : ((na : Int) == 0) = false := by
      have : (na : Int) ≠ 0 := by omega
      simpa using this
    go_wp2_with fail
    go_quiet (fail)
    clear bz
    obtain ⟨w4, hw4⟩ : ∃ w4, w3.drewN nq = w4 := ⟨_, rfl⟩
    have HB34 := Lib.hid (show Below w3.heap.size w3 w4 by rw [← hw4]; exact below_drewN w3 nq)
    rw [hw4]
    clear hw4
    have HM5 : Hid (Rd (w4.alloc (.cells (nums .u8 (List.replicate m1 0)).toArray 5 (0, 0))) (some ⟨w4.heap.size, 0, none⟩) m1 m1 1 (nums .u8 (List.replicate m1 0))) := Lib.hid (rd_alloc w4 _ _ _ _ _ _ _ (by simp) (by simp [nums_length]) (Nat.le_refl _) (by unfold maxLen; omega))
    have HB35 := Lib.hid (below_two HB34.out (below_lit w4 (.cells (nums .u8 (List.replicate m1 0)).toArray 5 (0, 0))))
    have hmk4 := hmk w4
    obtain ⟨w5, hw5⟩ : ∃ w5, w4.alloc (.cells (nums .u8 (List.replicate m1 0)).toArray 5 (0, 0)) = w5 := ⟨_, rfl⟩
    obtain ⟨g5, hg5⟩ : ∃ g5, w4.heap.size = g5 := ⟨_, rfl⟩
    rw [hw5] at hmk4 HM5 HB35
    rw [hg5] at hmk4 HM5
    clear hmk hw5 hg5 HB34
    have HO := Lib.hid (own_new17 w5)
    have HB5 := Lib.hid (below_lit w5 (.cells #[] 5))
    have HX5 := Lib.hid ((HPI.out _ HB35.out).2.1.below HB5.out)
    go_wp2_with fail
    refine (Put_is _ c _ a PA ka _ HNA.out HPA.out HKA.out HX5.out HAR.out (by omega)).mono ?_
    rintro e w6 ⟨A6, c6, rfl, hr, hb⟩
    have HO := Lib.hid (own_below HO.out hb)
    have HR6 := Lib.hid hr
    have HB5 := Lib.hid (below_two HB5.out hb)
    clear hr hb HX5
    go_wp2_with (refine wp_app (w0 := w5) rfl (.tmp 51) (.tmp 53) 22 5 (.int .u8 0) 1 1 rfl Tryd.underlying22 infoU8 rfl (by decide) (by decide) w5.heap.size _ 0 [] rfl HO.out A6 ka c6 (nums .u8 PA) rfl HR6.out (nums_one _ _) (by omega) HB5.out.size HB5.out ?_)
    intro v7 w7 ho hb _
    have HO := Lib.hid ho
    have HB5 := Lib.hid hb
    have HY5 := Lib.hid ((HPI.out _ HB35.out).2.2.1.below hb)
    clear ho hb HR6
    go_wp2_with fail
    refine (Put_is _ cb _ b PB kb _ HNB.out HPB.out HKB.out HY5.out HBR.out (by omega)).mono ?_
    rintro e w8 ⟨A8, c8, rfl, hr, hb⟩
    have HO := Lib.hid (own_below HO.out hb)
    have HR8 := Lib.hid hr
    have HB5 := Lib.hid (below_two HB5.out hb)
    clear hr hb HY5
    go_wp2_with (refine wp_app (w0 := w5) rfl (.tmp 54) (.tmp 56) 22 5 (.int .u8 0) 1 1 rfl Tryd.underlying22 infoU8 rfl (by decide) (by decide) w5.heap.size _ ka (nums .u8 PA) rfl HO.out A8 kb c8 (nums .u8 PB) rfl HR8.out (nums_one _ _) (by omega) HB5.out.size HB5.out ?_)
    intro v9 w9 ho hb _
    rw [nums_app17] at ho
    obtain ⟨A9, c9, rfl, hr⟩ := Rd.own ho
    have HB39 := Lib.hid (below_two HB35.out hb)
    have hcr := conv_all (by rw [List.length_append, HKA.out, HKB.out]) hr
    have HM9 := Lib.hid (HM5.out.below hb)
    have HBZ := Lib.hid (below_two (HPI.out _ HB35.out).2.2.2 hb)
    have HC1 := Lib.hid (fun w' (hb2 : Below w9.heap.size w9 w') => Put_is A3 c3 _ (a ++ b) PC kc w' HABL.out HPC.out HKC.out ((HPI.out _ (below_two HB39.out hb2)).1) HABR.out (by omega))
    have HC2 := Lib.hid (fun w' (hb2 : Below w9.heap.size w9 w') => Put_is (some ⟨g5, 0, none⟩) m1 m1 (List.replicate m1 0) PO ko w' (by simp) HPO.out HKO.out (HM9.out.below hb2) (fun z hz => by rw [List.eq_of_mem_replicate hz]; decide) (by omega))
    have hj := HJ.out
    have hd3 : decide ((ko : Int) ≤ 3) = true := decide_eq_true (by omega)
    clear ho hb HO HR8 HB5 hr
    go_wp2_with fail
    go_region_held (fun w' => Below w9.heap.size w9 w')
      (first
        | exact (Below.refl _ _).drew
        | assumption
        | exact below_two (by assumption) (by assumption))
      (first
        | (go_at_call 9; with_reducible refine (HC1.out _ (by assumption)).mono ?_; rintro e w' ⟨A10, c10, rfl, hr, hb⟩; have hcy := conv_all HKC.out hr; have hrf := Below.refl w'.heap.size w'; clear hr)
        | (go_at_call 9; with_reducible refine (HC2.out _ (by assumption)).mono ?_; rintro e w' ⟨A11, c11, rfl, hr, hb⟩; clear hr))
    all_goals go_wp2
    all_goals go_ret
    all_goals exact ⟨rfl, below_two HBZ.out (by assumption)⟩
  · have eK : (na : Int) - 1 = (K : Int) := by omega
    have b1 : (0 : Int) ≤ (K : Int) := by omega
    have b2 : (K : Int) < (na : Int) := by omega
    have b3 : (0 : Int) < (nb : Int) := by omega
    have bz : ((na : Int) == 0) = false := by
      have : (na : Int) ≠ 0 := by omega
      simpa using this
    have bz2 : ((nb : Int) == 0) = false := by
      have : (nb : Int) ≠ 0 := by omega
      simpa using this
    obtain ⟨q, hq⟩ : ∃ q, (x != y) = q := ⟨_, rfl⟩
    have hq2 : ap = q := by rw [hap, ← hq]; rfl
    subst hq2
    clear hap hK
    go_wp2_with fail
    go_quiet (fail)
    clear hq e0 e1 eK b1 b2 b3 bz bz2 hnb0
    obtain ⟨w4, hw4⟩ : ∃ w4, w3.drewN nq = w4 := ⟨_, rfl⟩
    have HB34 := Lib.hid (show Below w3.heap.size w3 w4 by rw [← hw4]; exact below_drewN w3 nq)
    rw [hw4]
    clear hw4
    have HM5 : Hid (Rd (w4.alloc (.cells (nums .u8 (List.replicate m1 0)).toArray 5 (0, 0))) (some ⟨w4.heap.size, 0, none⟩) m1 m1 1 (nums .u8 (List.replicate m1 0))) := Lib.hid (rd_alloc w4 _ _ _ _ _ _ _ (by simp) (by simp [nums_length]) (Nat.le_refl _) (by unfold maxLen; omega))
    have HB35 := Lib.hid (below_two HB34.out (below_lit w4 (.cells (nums .u8 (List.replicate m1 0)).toArray 5 (0, 0))))
    have hmk4 := hmk w4
    obtain ⟨w5, hw5⟩ : ∃ w5, w4.alloc (.cells (nums .u8 (List.replicate m1 0)).toArray 5 (0, 0)) = w5 := ⟨_, rfl⟩
    obtain ⟨g5, hg5⟩ : ∃ g5, w4.heap.size = g5 := ⟨_, rfl⟩
    rw [hw5] at hmk4 HM5 HB35
    rw [hg5] at hmk4 HM5
    clear hmk hw5 hg5 HB34
    have HO := Lib.hid (own_new17 w5)
    have HB5 := Lib.hid (below_lit w5 (.cells #[] 5))
    have HX5 := Lib.hid ((HPI.out _ HB35.out).2.1.below HB5.out)
    go_wp2_with fail
    refine (Put_is _ c _ a PA ka _ HNA.out HPA.out HKA.out HX5.out HAR.out (by omega)).mono ?_
    rintro e w6 ⟨A6, c6, rfl, hr, hb⟩
    have HO := Lib.hid (own_below HO.out hb)
    have HR6 := Lib.hid hr
    have HB5 := Lib.hid (below_two HB5.out hb)
    clear hr hb HX5
    go_wp2_with (refine wp_app (w0 := w5) rfl (.tmp 51) (.tmp 53) 22 5 (.int .u8 0) 1 1 rfl Tryd.underlying22 infoU8 rfl (by decide) (by decide) w5.heap.size _ 0 [] rfl HO.out A6 ka c6 (nums .u8 PA) rfl HR6.out (nums_one _ _) (by omega) HB5.out.size HB5.out ?_)
    intro v7 w7 ho hb _
    have HO := Lib.hid ho
    have HB5 := Lib.hid hb
    have HY5 := Lib.hid ((HPI.out _ HB35.out).2.2.1.below hb)
    clear ho hb HR6
    go_wp2_with fail
    refine (Put_is _ cb _ b PB kb _ HNB.out HPB.out HKB.out HY5.out HBR.out (by omega)).mono ?_
    rintro e w8 ⟨A8, c8, rfl, hr, hb⟩
    have HO := Lib.hid (own_below HO.out hb)
    have HR8 := Lib.hid hr
    have HB5 := Lib.hid (below_two HB5.out hb)
    clear hr hb HY5
    go_wp2_with (refine wp_app (w0 := w5) rfl (.tmp 54) (.tmp 56) 22 5 (.int .u8 0) 1 1 rfl Tryd.underlying22 infoU8 rfl (by decide) (by decide) w5.heap.size _ ka (nums .u8 PA) rfl HO.out A8 kb c8 (nums .u8 PB) rfl HR8.out (nums_one _ _) (by omega) HB5.out.size HB5.out ?_)
    intro v9 w9 ho hb _
    rw [nums_app17] at ho
    obtain ⟨A9, c9, rfl, hr⟩ := Rd.own ho
    have HB39 := Lib.hid (below_two HB35.out hb)
    have hcr := conv_all (by rw [List.length_append, HKA.out, HKB.out]) hr
    have HM9 := Lib.hid (HM5.out.below hb)
    have HBZ := Lib.hid (below_two (HPI.out _ HB35.out).2.2.2 hb)
    have HC1 := Lib.hid (fun w' (hb2 : Below w9.heap.size w9 w') => Put_is A3 c3 _ (a ++ b) PC kc w' HABL.out HPC.out HKC.out ((HPI.out _ (below_two HB39.out hb2)).1) HABR.out (by omega))
    have HC2 := Lib.hid (fun w' (hb2 : Below w9.heap.size w9 w') => Put_is (some ⟨g5, 0, none⟩) m1 m1 (List.replicate m1 0) PO ko w' (by simp) HPO.out HKO.out (HM9.out.below hb2) (fun z hz => by rw [List.eq_of_mem_replicate hz]; decide) (by omega))
    have hj := HJ.out
    have hd3 : decide ((ko : Int) ≤ 3) = true := decide_eq_true (by omega)
    clear ho hb HO HR8 HB5 hr
    go_wp2_with fail
    go_region_held (fun w' => Below w9.heap.size w9 w')
      (first
        | exact (Below.refl _ _).drew
        | assumption
        | exact below_two (by assumption) (by assumption))
      (first
        | (go_at_call 9; with_reducible refine (HC1.out _ (by assumption)).mono ?_; rintro e w' ⟨A10, c10, rfl, hr, hb⟩; have hcy := conv_all HKC.out hr; have hrf := Below.refl w'.heap.size w'; clear hr)
        | (go_at_call 9; with_reducible refine (HC2.out _ (by assumption)).mono ?_; rintro e w' ⟨A11, c11, rfl, hr, hb⟩; clear hr))
    all_goals go_wp2
    all_goals go_ret
    all_goals exact ⟨rfl, below_two HBZ.out (by assumption)⟩
end Go.Proofs.YticebanhccgglaaDoor
