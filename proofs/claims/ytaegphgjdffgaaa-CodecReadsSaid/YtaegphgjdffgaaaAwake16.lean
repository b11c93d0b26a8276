/- nostoslaw16: awake. -/
import Derived.Test.YtaegphgjdffgaaaRRText16
import Derived.Deep.RegionHeld
import Derived.Lib.SmallJoins
namespace Go.Proofs.Ytaegphgjdffgaaa
open Go.RowKit

/-- What is owned, as it is read. -/
theorem own_rd {w : World} {B k : Nat} {x : Value} {l : List Int} (h : w.ownsRow B 5 1 x k (nums .u8 l)) : ∃ A c, x = .slice A k c ∧ Rd w A k c 1 (nums .u8 l) := Rd.own h
theorem conv_all {w : World} {A : Option Addr} {n c : Nat} {l : List Int} (hn : l.length = n) (h : Rd w A n c 1 (nums .u8 l)) : ∀ w', Below w.heap.size w w' → (convert 22 9 (.slice A n c)).run Try.prog w' = .ok (.string (strOf l)) w' := fun w' hb => by
  subst hn
  exact conv_rd (P := Try.prog) Try.underlying22 Try.underlying5 Try.underlying9 (h.below hb)
theorem Num_is (n : Int) (w : World) (l : List Int) (k : Nat) (hl : grp (zz n) = l) (hk : l.length = k) (h0 : -9223372036854775808 ≤ n) (h1 : n ≤ 9223372036854775807) :
    Calls Try.prog 9 #[.int .i64 n] w fun e w' => ∃ A c, e = .returned (.slice A k c) ∧ Rd w' A k c 1 (nums .u8 l) ∧ Below w.heap.size w w' := by
  refine (Num_any n w h0 h1 l k hl hk).mono ?_
  rintro e w' ⟨x, rfl, ho, hb⟩
  obtain ⟨A, c, rfl, hr⟩ := own_rd ho
  exact ⟨A, c, rfl, hr, hb⟩
theorem Text_is (A : Option Addr) (c n : Nat) (b : List Int) (w : World) (l : List Int) (k : Nat) (hn : b.length = n) (hl : grp (zz n) ++ b = l) (hk : l.length = k) (hx : Rd w A n c 1 (nums .u8 b)) (hb : n ≤ 1000000) :
    Calls Try.prog 11 #[.slice A n c] w fun e w' => ∃ A1 c1, e = .returned (.slice A1 k c1) ∧ Rd w' A1 k c1 1 (nums .u8 l) ∧ Below w.heap.size w w' := by
  subst hn hl hk
  refine (Text_any A c b w hx hb).mono ?_
  rintro e w' ⟨x, rfl, ho, hb⟩
  obtain ⟨A, c, rfl, hr⟩ := own_rd ho
  exact ⟨A, c, rfl, hr, hb⟩

theorem heap_mark (h : Array Obj) (x y : Obj) (f : Obj → Obj) : ((h.push x).push y).modify h.size f = (h.push (f x)).push y := by
  apply Array.ext
  · simp
  · intro i h1 h2
    simp only [Array.getElem_modify, Array.getElem_push, Array.size_push]
    simp at h1
    by_cases hi : h.size = i
    · subst hi
      simp
    · by_cases hi2 : i < h.size
      · simp [hi, hi2, show i < h.size + 1 by omega]
      · simp [hi, show ¬ i < h.size + 1 by omega]
theorem mark_inner {P : Program} (w : World) (t e : TypeId) (C : Array Value) (o : Obj) (n c : Nat) (ht : P.underlying t = some (.slice e)) (he : P.underlying e = some (.int .u8)) :
    (convert t t (.slice (some ⟨w.heap.size, 0, none⟩) n c)).run P ((w.alloc (.cells C e)).alloc o).drew = .ok (.slice (some ⟨w.heap.size, 0, none⟩) n c) ((w.alloc (.cells C e (C.size, C.size + 1))).alloc o).drew := by
  have hsh : ((w.alloc (.cells C e)).alloc o).drew.shape? w.heap.size = some (e, C.size) := by
    have : ((w.alloc (.cells C e)).alloc o).drew.heap[w.heap.size]? = some (.cells C e) := by
      show ((w.heap.push (.cells C e)).push o)[w.heap.size]? = _
      rw [Array.getElem?_push, if_neg (by simp), Array.getElem?_push, if_pos rfl]
    unfold World.shape?
    rw [this]
  have hfr : ∀ (k : Nat), ((w.alloc (.cells C e)).alloc o).drew.freeze ⟨w.heap.size, k, none⟩ 1 = ((w.alloc (.cells C e (k, k + 1))).alloc o).drew := fun k => by
    unfold World.freeze
    rw [if_neg (by decide)]
    show ({ ((w.alloc (.cells C e)).alloc o).drew with heap := ((w.heap.push (.cells C e)).push o).modify w.heap.size _ } : World) = _
    rw [heap_mark]
    rfl
  simp [convert, run_underlying ht, run_underlying he, markStringish, hsh]
  exact hfr _
theorem keepS {w w' : World} {ad : Addr} {v : Value} (hc : w.cell? ad = some v) (hb : Below w.heap.size w w') : Below w.heap.size w w' ∧ w'.cell? ad = some v :=
  ⟨hb, (hb.cell (World.block_lt_of_cell? w _ hc)).trans hc⟩

set_option maxHeartbeats 20000000 in
set_option maxRecDepth 100000 in
theorem awake_any (w : World) : Calls Try.prog 8 #[] w fun e w' => e = .returned (.bool true) ∧ Below w.heap.size w w' := by
  go_enter Try.func8, Try.ntmps8
  go_wp2_with fail
  have q1 := rd_lit w .u8 [129, 0, 1, 4, 97, 98] #[.int .u8 129, .int .u8 0, .int .u8 1, .int .u8 4, .int .u8 97, .int .u8 98] 5 _ rfl rfl (by decide)
  have HB := Lib.hid (below_lit w (.cells #[.int .u8 129, .int .u8 0, .int .u8 1, .int .u8 4, .int .u8 97, .int .u8 98] 5))
  refine (New_any (some ⟨w.heap.size, 0, none⟩) 6 6 [129, 0, 1, 4, 97, 98] _ rfl q1 (by decide)).mono ?_
  clear q1
  rintro e w1 ⟨g, rfl, hge, hr, hb⟩
  have HR := Lib.hid hr
  have HB := Lib.hid (below_two HB.out hb)
  have hg : w.heap.size < g := by rw [hge]; simp
  clear hr hb hge
  go_wp2_with fail
  refine (RdNum_any g _ 6 _ 0 0 99 _ HR.out 64 [1, 4, 97, 98] 0 (by decide +kernel) (by decide)).mono ?_
  rintro e w2 ⟨rfl, A2, c2, hr, ho⟩
  have HR := Lib.hid hr
  have HB := Lib.hid (HB.out.trans (ho.below (by omega) HB.out.size))
  clear hr ho
  go_wp2_with fail
  refine (RdNum_any g _ _ _ 0 (-9) 9 _ HR.out (-1) [4, 97, 98] 0 (by decide +kernel) (by decide)).mono ?_
  rintro e w3 ⟨rfl, A3, c3, hr, ho⟩
  have HR := Lib.hid hr
  have HB := Lib.hid (HB.out.trans (ho.below (by omega) HB.out.size))
  clear hr ho
  go_wp2_with fail
  refine (RdText_any g _ _ _ 0 2 _ HR.out [97, 98] [] 0 (by decide +kernel) (by decide)).mono ?_
  rintro e w4 ⟨A4, c4, rfl, ht, A5, c5, hr, ho⟩
  have HT := Lib.hid ht
  have HR := Lib.hid hr
  have HB := Lib.hid (HB.out.trans (ho.below (by omega) HB.out.size))
  clear hr ho ht
  go_wp2_with fail
  refine (Num_is 64 _ [129, 0] 2 (by decide +kernel) rfl (by decide) (by decide)).mono ?_
  rintro e w5 ⟨A6, c6, rfl, hr, hb⟩
  obtain ⟨ad6, rfl, h6⟩ := RdI.all (xs := [129, 0]) hr (by decide)
  have h60 : w5.cell? ad6 = some (.int .u8 129) := by simpa [Addr.add] using h6 0 (by decide)
  have hcx := conv_all (n := 2) (l := [97, 98]) rfl (HT.out.below hb)
  have HR := Lib.hid (HR.out.below hb)
  have HB := Lib.hid (below_two HB.out hb)
  clear hb hr h6 HT
  go_wp2_with fail
  have HE : Hid (∀ w', Below w5.heap.size w5 w' → Calls Try.prog 19 #[.pointer (some ⟨g, 0, none⟩)] w' fun r w'' => r = .returned (.int .i64 0) ∧ w' = w'') := Lib.hid (fun w' hb => End_any g A5 c5 [] 0 w' (HR.out.below hb).st)
  have hs1 : (strOf [97, 98]) = ⟨#[97, 98]⟩ := by decide +kernel
  have hs2 : (strOf [4, 97, 98]) = ⟨#[4, 97, 98]⟩ := by decide +kernel
  rw [hs1] at hcx
  have hdr : Below w5.heap.size w5 w5.drew := (Below.refl _ _).drew
  have R97 := Lib.hid (rd_alloc w5 (nums .u8 [97, 98]) #[.int .u8 97, .int .u8 98] 5 (2, 3) 2 2 1 rfl rfl (by decide) (by decide))
  have R4 : Hid (∀ fr : Nat × Nat, Rd ((w5.alloc (.cells #[.int .u8 97, .int .u8 98] 5 fr)).alloc (.cells #[.int .u8 4, .int .u8 97, .int .u8 98] 5)) (some ⟨w5.heap.size + 1, 0, none⟩) 3 3 1 (nums .u8 [4, 97, 98])) := Lib.hid (fun fr => rd_lit (w5.alloc (.cells #[.int .u8 97, .int .u8 98] 5 fr)) .u8 [4, 97, 98] #[.int .u8 4, .int .u8 97, .int .u8 98] 5 (w5.heap.size + 1) (by simp) rfl (by decide))
  have S4 : Hid (Rd (w5.alloc (.cells #[.int .u8 4, .int .u8 97, .int .u8 98] 5)) (some ⟨w5.heap.size, 0, none⟩) 3 3 1 (nums .u8 [4, 97, 98])) := Lib.hid (rd_lit w5 .u8 [4, 97, 98] #[.int .u8 4, .int .u8 97, .int .u8 98] 5 w5.heap.size rfl rfl (by decide))
  have S97 := Lib.hid (rd_alloc (w5.alloc (.cells #[.int .u8 4, .int .u8 97, .int .u8 98] 5)) (nums .u8 [97, 98]) #[.int .u8 97, .int .u8 98] 5 (2, 3) 2 2 1 rfl rfl (by decide) (by decide))
  have str0 : (convert 22 9 (.slice (some ⟨w5.heap.size, 0, none⟩) 3 3)).run Try.prog (w5.alloc (.cells #[.int .u8 4, .int .u8 97, .int .u8 98] 5)).drew = .ok (.string ⟨#[4, 97, 98]⟩) (w5.alloc (.cells #[.int .u8 4, .int .u8 97, .int .u8 98] 5)).drew := by rw [← hs2]; exact conv_all (n := 3) (l := [4, 97, 98]) rfl (Rd.below S4.out (Below.refl _ _).drew) _ (Below.refl _ _)
  have str1 : (convert 22 9 (.slice (some ⟨w5.heap.size, 0, none⟩) 3 3)).run Try.prog ((w5.alloc (.cells #[.int .u8 4, .int .u8 97, .int .u8 98] 5)).alloc (.cells #[.int .u8 97, .int .u8 98] 5)).drew = .ok (.string ⟨#[4, 97, 98]⟩) ((w5.alloc (.cells #[.int .u8 4, .int .u8 97, .int .u8 98] 5)).alloc (.cells #[.int .u8 97, .int .u8 98] 5)).drew := by rw [← hs2]; exact conv_all (n := 3) (l := [4, 97, 98]) rfl (Rd.below (Rd.below S4.out (below_lit _ _)) (Below.refl _ _).drew) _ (Below.refl _ _)
  have str2 : (convert 22 9 (.slice (some ⟨w5.heap.size, 0, none⟩) 3 3)).run Try.prog ((w5.alloc (.cells #[.int .u8 4, .int .u8 97, .int .u8 98] 5)).alloc (.cells #[.int .u8 97, .int .u8 98] 5 (2, 3))).drew = .ok (.string ⟨#[4, 97, 98]⟩) ((w5.alloc (.cells #[.int .u8 4, .int .u8 97, .int .u8 98] 5)).alloc (.cells #[.int .u8 97, .int .u8 98] 5 (2, 3))).drew := by rw [← hs2]; exact conv_all (n := 3) (l := [4, 97, 98]) rfl (Rd.below (Rd.below S4.out (below_lit _ _)) (Below.refl _ _).drew) _ (Below.refl _ _)
  have str3 : (convert 22 9 (.slice (some ⟨w5.heap.size + 1, 0, none⟩) 3 3)).run Try.prog ((w5.alloc (.cells #[.int .u8 97, .int .u8 98] 5)).alloc (.cells #[.int .u8 4, .int .u8 97, .int .u8 98] 5)).drew = .ok (.string ⟨#[4, 97, 98]⟩) ((w5.alloc (.cells #[.int .u8 97, .int .u8 98] 5)).alloc (.cells #[.int .u8 4, .int .u8 97, .int .u8 98] 5)).drew := by rw [← hs2]; exact conv_all (n := 3) (l := [4, 97, 98]) rfl (Rd.below (R4.out (0, 0)) (Below.refl _ _).drew) _ (Below.refl _ _)
  have str4 : (convert 22 9 (.slice (some ⟨w5.heap.size + 1, 0, none⟩) 3 3)).run Try.prog ((w5.alloc (.cells #[.int .u8 97, .int .u8 98] 5 (2, 3))).alloc (.cells #[.int .u8 4, .int .u8 97, .int .u8 98] 5)).drew = .ok (.string ⟨#[4, 97, 98]⟩) ((w5.alloc (.cells #[.int .u8 97, .int .u8 98] 5 (2, 3))).alloc (.cells #[.int .u8 4, .int .u8 97, .int .u8 98] 5)).drew := by rw [← hs2]; exact conv_all (n := 3) (l := [4, 97, 98]) rfl (Rd.below (R4.out (2, 3)) (Below.refl _ _).drew) _ (Below.refl _ _)
  have str9 : ∀ w : World, (convert 22 9 (.slice (some ⟨w.heap.size, 0, none⟩) 3 3)).run Try.prog (w.alloc (.cells #[.int .u8 4, .int .u8 97, .int .u8 98] 5)) = .ok (.string ⟨#[4, 97, 98]⟩) (w.alloc (.cells #[.int .u8 4, .int .u8 97, .int .u8 98] 5)) := fun w => by rw [← hs2]; exact conv_all (n := 3) (l := [4, 97, 98]) rfl (rd_lit w .u8 [4, 97, 98] #[.int .u8 4, .int .u8 97, .int .u8 98] 5 _ rfl rfl (by decide)) _ (Below.refl _ _)
  have mk0 : (convert 22 22 (.slice (some ⟨w5.heap.size, 0, none⟩) 2 2)).run Try.prog (w5.alloc (.cells #[.int .u8 97, .int .u8 98] 5)).drew = .ok (.slice (some ⟨w5.heap.size, 0, none⟩) 2 2) (w5.alloc (.cells #[.int .u8 97, .int .u8 98] 5 (2, 3))).drew := Lib.run_convert_bytes_const w5.drew _ _ _ 2 2 Try.underlying22 Try.underlying5
  have mk1 : (convert 22 22 (.slice (some ⟨w5.heap.size + 1, 0, none⟩) 2 2)).run Try.prog ((w5.alloc (.cells #[.int .u8 4, .int .u8 97, .int .u8 98] 5)).alloc (.cells #[.int .u8 97, .int .u8 98] 5)).drew = .ok (.slice (some ⟨w5.heap.size + 1, 0, none⟩) 2 2) ((w5.alloc (.cells #[.int .u8 4, .int .u8 97, .int .u8 98] 5)).alloc (.cells #[.int .u8 97, .int .u8 98] 5 (2, 3))).drew := by
    have := Lib.run_convert_bytes_const (P := Try.prog) (w5.alloc (.cells #[.int .u8 4, .int .u8 97, .int .u8 98] 5)).drew 22 5 #[.int .u8 97, .int .u8 98] 2 2 Try.underlying22 Try.underlying5
    rw [show (w5.alloc (.cells #[.int .u8 4, .int .u8 97, .int .u8 98] 5)).drew.heap.size = w5.heap.size + 1 by simp] at this
    exact this
  have mk2 : (convert 22 22 (.slice (some ⟨w5.heap.size, 0, none⟩) 2 2)).run Try.prog ((w5.alloc (.cells #[.int .u8 97, .int .u8 98] 5)).alloc (.cells #[.int .u8 4, .int .u8 97, .int .u8 98] 5)).drew = .ok (.slice (some ⟨w5.heap.size, 0, none⟩) 2 2) ((w5.alloc (.cells #[.int .u8 97, .int .u8 98] 5 (2, 3))).alloc (.cells #[.int .u8 4, .int .u8 97, .int .u8 98] 5)).drew := mark_inner w5 _ _ _ _ 2 2 Try.underlying22 Try.underlying5
  have S97r : Rd ((w5.alloc (.cells #[.int .u8 4, .int .u8 97, .int .u8 98] 5)).alloc (.cells #[.int .u8 97, .int .u8 98] 5 (2, 3))) (some ⟨w5.heap.size + 1, 0, none⟩) 2 2 1 (nums .u8 [97, 98]) := by have := S97.out; rw [show (w5.alloc (.cells #[.int .u8 4, .int .u8 97, .int .u8 98] 5)).heap.size = w5.heap.size + 1 by simp] at this; exact this
  have HT1 := Lib.hid (Text_is (some ⟨w5.heap.size, 0, none⟩) 2 2 [97, 98] (w5.alloc (.cells #[.int .u8 97, .int .u8 98] 5 (2, 3))).drew [4, 97, 98] 3 rfl (by decide +kernel) rfl (Rd.below R97.out (Below.refl _ _).drew) (by decide))
  have HT2 := Lib.hid (Text_is (some ⟨w5.heap.size, 0, none⟩) 2 2 [97, 98] ((w5.alloc (.cells #[.int .u8 97, .int .u8 98] 5 (2, 3))).alloc (.cells #[.int .u8 4, .int .u8 97, .int .u8 98] 5)).drew [4, 97, 98] 3 rfl (by decide +kernel) rfl (Rd.below (Rd.below R97.out (below_lit _ _)) (Below.refl _ _).drew) (by decide))
  have HT3 := Lib.hid (Text_is (some ⟨w5.heap.size + 1, 0, none⟩) 2 2 [97, 98] ((w5.alloc (.cells #[.int .u8 4, .int .u8 97, .int .u8 98] 5)).alloc (.cells #[.int .u8 97, .int .u8 98] 5 (2, 3))).drew [4, 97, 98] 3 rfl (by decide +kernel) rfl (Rd.below S97r (Below.refl _ _).drew) (by decide))
  clear hs1
  go_region_held (fun w' => Below w5.heap.size w5 w' ∧ w'.cell? ad6 = some (.int .u8 129))
    (first
      | exact ⟨(Below.refl _ _).drew, h60⟩
      | assumption
      | exact keepS h60 ((below_lit _ _).drew)
      | exact keepS h60 ((below_two (below_lit _ _) (below_lit _ _)).drew)
      | exact keepS h60 (below_two ((below_lit _ _).drew) (by assumption))
      | exact keepS h60 (below_two ((below_two (below_lit _ _) (below_lit _ _)).drew) (by assumption))
      | exact keepS h60 (below_two (below_two ((below_lit _ _).drew) (by assumption)) (below_lit _ _)))
    (first
      | (go_at_call 19; refine (HE.out _ ((by assumption : Below w5.heap.size w5 _ ∧ _)).1).mono ?_; rintro e w' ⟨rfl, rfl⟩)
      | (go_at_call 11; with_reducible refine HT1.out.mono ?_; rintro e w6 ⟨A7, c7, rfl, hr, hb⟩; have hcy := conv_all (n := 3) (l := [4, 97, 98]) rfl hr; rw [hs2] at hcy; have hcy0 := hcy w6 (Below.refl _ _); have hrf := Below.refl w6.heap.size w6; have hra := fun o => below_lit w6 o; clear hr)
      | (go_at_call 11; with_reducible refine HT2.out.mono ?_; rintro e w6 ⟨A7, c7, rfl, hr, hb⟩; have hcy := conv_all (n := 3) (l := [4, 97, 98]) rfl hr; rw [hs2] at hcy; have hcy0 := hcy w6 (Below.refl _ _); have hrf := Below.refl w6.heap.size w6; have hra := fun o => below_lit w6 o; clear hr; have hcz := conv_all (n := 3) (l := [4, 97, 98]) rfl (Rd.below (Rd.below (R4.out (2, 3)) (Below.refl _ _).drew) hb); rw [hs2] at hcz; have hcz0 := hcz w6 (Below.refl _ _))
      | (go_at_call 11; with_reducible refine HT3.out.mono ?_; rintro e w6 ⟨A7, c7, rfl, hr, hb⟩; have hcy := conv_all (n := 3) (l := [4, 97, 98]) rfl hr; rw [hs2] at hcy; have hcy0 := hcy w6 (Below.refl _ _); have hrf := Below.refl w6.heap.size w6; have hra := fun o => below_lit w6 o; clear hr; have hcz := conv_all (n := 3) (l := [4, 97, 98]) rfl (Rd.below (Rd.below (Rd.below S4.out (below_lit _ _)) (Below.refl _ _).drew) hb); rw [hs2] at hcz; have hcz0 := hcz w6 (Below.refl _ _)))
  all_goals go_wp2
  all_goals go_ret
  all_goals exact ⟨rfl, below_two HB.out ((by assumption : Below w5.heap.size w5 _ ∧ _)).1⟩
end Go.Proofs.Ytaegphgjdffgaaa
