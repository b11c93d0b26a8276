
/- flow.table: a map of twelve functions. -/
import Derived.Test.YtfkkmlgblhnkaaaDoorME
import Derived.Test.YtfkkmlgblhnkaaaDoorMA
import Derived.Test.YtfkkmlgblhnkaaaDoorMD
namespace Go.Proofs.YtfkkmlgblhnkaaaDoor
open Go.RowKit

/-- The entries; r is the map's block, the four behind it are what the closures captured. -/
def tabE (r : Nat) : List MapEntry := [{ key := .string ⟨#[73, 70]⟩, val := .func (.func 44) #[] #[], born := 0 },
  { key := .string ⟨#[66, 69, 71, 73, 78]⟩, val := .func (.func 46) #[] #[], born := 1 },
  { key := .string ⟨#[68, 79]⟩, val := .func (.func 48) #[] #[], born := 2 },
  { key := .string ⟨#[65, 71, 65, 73, 78]⟩, val := .func (.func 38) #[] #[.pointer (some ⟨r + 1, 0, none⟩)], born := 3 },
  { key := .string ⟨#[85, 78, 84, 73, 76]⟩, val := .func (.func 38) #[] #[.pointer (some ⟨r + 2, 0, none⟩)], born := 4 },
  { key := .string ⟨#[76, 79, 79, 80]⟩, val := .func (.func 42) #[] #[.pointer (some ⟨r + 3, 0, none⟩)], born := 5 },
  { key := .string ⟨#[43, 76, 79, 79, 80]⟩, val := .func (.func 42) #[] #[.pointer (some ⟨r + 4, 0, none⟩)], born := 6 },
  { key := .string ⟨#[84, 72, 69, 78]⟩, val := .func (.func 49) #[] #[], born := 7 },
  { key := .string ⟨#[69, 76, 83, 69]⟩, val := .func (.func 50) #[] #[], born := 8 },
  { key := .string ⟨#[87, 72, 73, 76, 69]⟩, val := .func (.func 53) #[] #[], born := 9 },
  { key := .string ⟨#[82, 69, 80, 69, 65, 84]⟩, val := .func (.func 54) #[] #[], born := 10 },
  { key := .string ⟨#[82, 69, 67, 85, 82, 83, 69]⟩, val := .func (.func 56) #[] #[], born := 11 }]
theorem setMapU : Tryd.prog.underlying 49 = some (.map 9 48) := Tryd.underlying49

theorem mk1_any (op : Int) (w : World) : Calls Tryd.prog 37 #[.int .i64 op] w fun r w' => r = .returned (.func (.func 38) #[] #[.pointer (some ⟨w.heap.size, 0, none⟩)]) ∧ w' = w.alloc (.cells #[.int .i64 op] 3) := by
  go_enter Tryd.func37, Tryd.ntmps37
  go_wp2
  go_ret
  exact ⟨rfl, rfl⟩
theorem mk2_any (op : Int) (w : World) : Calls Tryd.prog 41 #[.int .i64 op] w fun r w' => r = .returned (.func (.func 42) #[] #[.pointer (some ⟨w.heap.size, 0, none⟩)]) ∧ w' = w.alloc (.cells #[.int .i64 op] 3) := by
  go_enter Tryd.func41, Tryd.ntmps41
  go_wp2
  go_ret
  exact ⟨rfl, rfl⟩

/-- What table leaves. -/
structure TabF (w : World) (r : Nat) : Prop where
  mp : Mp w r (tabE r).toArray 12
  c1 : w.cell? ⟨r + 1, 0, none⟩ = some (.int .i64 3)
  c2 : w.cell? ⟨r + 2, 0, none⟩ = some (.int .i64 4)
  c3 : w.cell? ⟨r + 3, 0, none⟩ = some (.int .i64 6)
  c4 : w.cell? ⟨r + 4, 0, none⟩ = some (.int .i64 7)
theorem TabF.below {w w' : World} {r : Nat} (h : TabF w r) (hb : Below w.heap.size w w') : TabF w' r :=
  ⟨h.mp.below hb, (hb.cell (World.block_lt_of_cell? w _ h.c1)).trans h.c1, (hb.cell (World.block_lt_of_cell? w _ h.c2)).trans h.c2, (hb.cell (World.block_lt_of_cell? w _ h.c3)).trans h.c3, (hb.cell (World.block_lt_of_cell? w _ h.c4)).trans h.c4⟩
theorem TabF.grown {w w' : World} {r k : Nat} (h : TabF w r) (hg : w.grownBy w' (some k)) (hk : r + 4 < k) : TabF w' r := by
  have hn : ∀ j, j ≤ 4 → some (r + j) ≠ some k := fun j hj e => by injection e with e; omega
  exact ⟨(hg.block r (Array.getElem?_eq_some_iff.1 h.mp).1 (hn 0 (by omega))).trans h.mp, hg.cell h.c1 (hn 1 (by omega)), hg.cell h.c2 (hn 2 (by omega)), hg.cell h.c3 (hn 3 (by omega)), hg.cell h.c4 (hn 4 (by omega))⟩

set_option maxRecDepth 100000 in
set_option maxHeartbeats 4000000 in
theorem TableF_any (w : World) : Calls Tryd.prog 17 #[] w fun e w' => e = .returned (.map (some w.heap.size)) ∧ TabF w' w.heap.size ∧ Below w.heap.size w w' := by
  have hmm := @run_makeMap Tryd.prog
  have HM0 : Hid (Mp (w.alloc (.map #[] 0)) w.heap.size ((tabE w.heap.size).take 0).toArray 0) := Lib.hid (Mp.new w)
  have HB0 := Lib.hid (below_lit w (.map #[] 0))
  have hs0 : (w.alloc (.map #[] 0)).heap.size = w.heap.size + 1 := by simp
  have HS0 := Lib.hid hs0
  clear hs0
  go_enter Tryd.func17, Tryd.ntmps17
  go_wp2_with (refine wp_set rfl 49 _ _ _ rfl w.heap.size ⟨#[73, 70]⟩ (.func (.func 44) #[] #[]) rfl rfl rfl 9 48 setMapU Tryd.underlying9 0 _ HM0.out (by kernel_rfl) ?_)
  intro w1 hm hg hsz
  have HM1 : Hid (Mp w1 w.heap.size ((tabE w.heap.size).take 1).toArray 1) := Lib.hid hm
  have HB1 := Lib.hid (below_grown HB0.out HB0.out.size hg (Nat.le_refl _))
  have HS1 : Hid (w1.heap.size = w.heap.size + 1) := Lib.hid (by first | exact hsz | (rw [hsz, HS0.out]))
  clear hm hg hsz
  go_wp2_with (refine wp_set rfl 49 _ _ _ rfl w.heap.size ⟨#[66, 69, 71, 73, 78]⟩ (.func (.func 46) #[] #[]) rfl rfl rfl 9 48 setMapU Tryd.underlying9 1 _ HM1.out (by kernel_rfl) ?_)
  intro w2 hm hg hsz
  have HM2 : Hid (Mp w2 w.heap.size ((tabE w.heap.size).take 2).toArray 2) := Lib.hid hm
  have HB2 := Lib.hid (below_grown HB1.out HB1.out.size hg (Nat.le_refl _))
  have HS2 : Hid (w2.heap.size = w.heap.size + 1) := Lib.hid (by first | exact hsz | (rw [hsz, HS1.out]))
  clear hm hg hsz
  go_wp2_with (refine wp_set rfl 49 _ _ _ rfl w.heap.size ⟨#[68, 79]⟩ (.func (.func 48) #[] #[]) rfl rfl rfl 9 48 setMapU Tryd.underlying9 2 _ HM2.out (by kernel_rfl) ?_)
  intro w3 hm hg hsz
  have HM3 : Hid (Mp w3 w.heap.size ((tabE w.heap.size).take 3).toArray 3) := Lib.hid hm
  have HB3 := Lib.hid (below_grown HB2.out HB2.out.size hg (Nat.le_refl _))
  have HS3 : Hid (w3.heap.size = w.heap.size + 1) := Lib.hid (by first | exact hsz | (rw [hsz, HS2.out]))
  clear hm hg hsz
  go_wp2_with fail
  have hk := mk1_any 3 w3
  rw [HS3.out] at hk
  refine hk.mono ?_
  rintro e w' ⟨rfl, rfl⟩
  clear hk
  have HBm := below_lit w3 (.cells #[.int .i64 3] 3)
  have HK1 : Hid ((w3.alloc (.cells #[.int .i64 3] 3)).cell? ⟨w.heap.size + 1, 0, none⟩ = some (.int .i64 3)) := Lib.hid (by have := (Bx.new w3 3 [.int .i64 3] #[.int .i64 3] (w.heap.size + 1) HS3.out rfl).cell 0; exact this)
  have HM3 := Lib.hid (HM3.out.below HBm)
  have HB3 := Lib.hid (below_two HB3.out HBm)
  obtain ⟨V3, hV⟩ : ∃ V, w3.alloc (.cells #[.int .i64 3] 3) = V := ⟨_, rfl⟩
  have HS3 : Hid (V3.heap.size = w.heap.size + 2) := Lib.hid (by rw [← hV, World.size_alloc, HS3.out])
  rw [hV] at HM3 HB3 HK1 ⊢
  clear hV HBm
  go_wp2_with (refine wp_set rfl 49 _ _ _ rfl w.heap.size ⟨#[65, 71, 65, 73, 78]⟩ (.func (.func 38) #[] #[.pointer (some ⟨w.heap.size + 1, 0, none⟩)]) rfl rfl rfl 9 48 setMapU Tryd.underlying9 3 _ HM3.out (by kernel_rfl) ?_)
  intro w4 hm hg hsz
  have HM4 : Hid (Mp w4 w.heap.size ((tabE w.heap.size).take 4).toArray 4) := Lib.hid hm
  have HB4 := Lib.hid (below_grown HB3.out HB3.out.size hg (Nat.le_refl _))
  have HS4 : Hid (w4.heap.size = w.heap.size + 2) := Lib.hid (by first | exact hsz | (rw [hsz, HS3.out]))
  have HK1 := Lib.hid (hg.cell HK1.out (fun e => by injection e with e; have e : w.heap.size + 1 = w.heap.size := e; omega))
  clear hm hg hsz
  go_wp2_with fail
  have hk := mk1_any 4 w4
  rw [HS4.out] at hk
  refine hk.mono ?_
  rintro e w' ⟨rfl, rfl⟩
  clear hk
  have HBm := below_lit w4 (.cells #[.int .i64 4] 3)
  have HK2 : Hid ((w4.alloc (.cells #[.int .i64 4] 3)).cell? ⟨w.heap.size + 2, 0, none⟩ = some (.int .i64 4)) := Lib.hid (by have := (Bx.new w4 3 [.int .i64 4] #[.int .i64 4] (w.heap.size + 2) HS4.out rfl).cell 0; exact this)
  have HK1 := Lib.hid ((HBm.cell (World.block_lt_of_cell? _ _ HK1.out)).trans HK1.out)
  have HM4 := Lib.hid (HM4.out.below HBm)
  have HB4 := Lib.hid (below_two HB4.out HBm)
  obtain ⟨V4, hV⟩ : ∃ V, w4.alloc (.cells #[.int .i64 4] 3) = V := ⟨_, rfl⟩
  have HS4 : Hid (V4.heap.size = w.heap.size + 3) := Lib.hid (by rw [← hV, World.size_alloc, HS4.out])
  rw [hV] at HM4 HB4 HK1 HK2 ⊢
  clear hV HBm
  go_wp2_with (refine wp_set rfl 49 _ _ _ rfl w.heap.size ⟨#[85, 78, 84, 73, 76]⟩ (.func (.func 38) #[] #[.pointer (some ⟨w.heap.size + 2, 0, none⟩)]) rfl rfl rfl 9 48 setMapU Tryd.underlying9 4 _ HM4.out (by kernel_rfl) ?_)
  intro w5 hm hg hsz
  have HM5 : Hid (Mp w5 w.heap.size ((tabE w.heap.size).take 5).toArray 5) := Lib.hid hm
  have HB5 := Lib.hid (below_grown HB4.out HB4.out.size hg (Nat.le_refl _))
  have HS5 : Hid (w5.heap.size = w.heap.size + 3) := Lib.hid (by first | exact hsz | (rw [hsz, HS4.out]))
  have HK1 := Lib.hid (hg.cell HK1.out (fun e => by injection e with e; have e : w.heap.size + 1 = w.heap.size := e; omega))
  have HK2 := Lib.hid (hg.cell HK2.out (fun e => by injection e with e; have e : w.heap.size + 2 = w.heap.size := e; omega))
  clear hm hg hsz
  go_wp2_with fail
  have hk := mk2_any 6 w5
  rw [HS5.out] at hk
  refine hk.mono ?_
  rintro e w' ⟨rfl, rfl⟩
  clear hk
  have HBm := below_lit w5 (.cells #[.int .i64 6] 3)
  have HK3 : Hid ((w5.alloc (.cells #[.int .i64 6] 3)).cell? ⟨w.heap.size + 3, 0, none⟩ = some (.int .i64 6)) := Lib.hid (by have := (Bx.new w5 3 [.int .i64 6] #[.int .i64 6] (w.heap.size + 3) HS5.out rfl).cell 0; exact this)
  have HK1 := Lib.hid ((HBm.cell (World.block_lt_of_cell? _ _ HK1.out)).trans HK1.out)
  have HK2 := Lib.hid ((HBm.cell (World.block_lt_of_cell? _ _ HK2.out)).trans HK2.out)
  have HM5 := Lib.hid (HM5.out.below HBm)
  have HB5 := Lib.hid (below_two HB5.out HBm)
  obtain ⟨V5, hV⟩ : ∃ V, w5.alloc (.cells #[.int .i64 6] 3) = V := ⟨_, rfl⟩
  have HS5 : Hid (V5.heap.size = w.heap.size + 4) := Lib.hid (by rw [← hV, World.size_alloc, HS5.out])
  rw [hV] at HM5 HB5 HK1 HK2 HK3 ⊢
  clear hV HBm
  go_wp2_with (refine wp_set rfl 49 _ _ _ rfl w.heap.size ⟨#[76, 79, 79, 80]⟩ (.func (.func 42) #[] #[.pointer (some ⟨w.heap.size + 3, 0, none⟩)]) rfl rfl rfl 9 48 setMapU Tryd.underlying9 5 _ HM5.out (by kernel_rfl) ?_)
  intro w6 hm hg hsz
  have HM6 : Hid (Mp w6 w.heap.size ((tabE w.heap.size).take 6).toArray 6) := Lib.hid hm
  have HB6 := Lib.hid (below_grown HB5.out HB5.out.size hg (Nat.le_refl _))
  have HS6 : Hid (w6.heap.size = w.heap.size + 4) := Lib.hid (by first | exact hsz | (rw [hsz, HS5.out]))
  have HK1 := Lib.hid (hg.cell HK1.out (fun e => by injection e with e; have e : w.heap.size + 1 = w.heap.size := e; omega))
  have HK2 := Lib.hid (hg.cell HK2.out (fun e => by injection e with e; have e : w.heap.size + 2 = w.heap.size := e; omega))
  have HK3 := Lib.hid (hg.cell HK3.out (fun e => by injection e with e; have e : w.heap.size + 3 = w.heap.size := e; omega))
  clear hm hg hsz
  go_wp2_with fail
  have hk := mk2_any 7 w6
  rw [HS6.out] at hk
  refine hk.mono ?_
  rintro e w' ⟨rfl, rfl⟩
  clear hk
  have HBm := below_lit w6 (.cells #[.int .i64 7] 3)
  have HK4 : Hid ((w6.alloc (.cells #[.int .i64 7] 3)).cell? ⟨w.heap.size + 4, 0, none⟩ = some (.int .i64 7)) := Lib.hid (by have := (Bx.new w6 3 [.int .i64 7] #[.int .i64 7] (w.heap.size + 4) HS6.out rfl).cell 0; exact this)
  have HK1 := Lib.hid ((HBm.cell (World.block_lt_of_cell? _ _ HK1.out)).trans HK1.out)
  have HK2 := Lib.hid ((HBm.cell (World.block_lt_of_cell? _ _ HK2.out)).trans HK2.out)
  have HK3 := Lib.hid ((HBm.cell (World.block_lt_of_cell? _ _ HK3.out)).trans HK3.out)
  have HM6 := Lib.hid (HM6.out.below HBm)
  have HB6 := Lib.hid (below_two HB6.out HBm)
  obtain ⟨V6, hV⟩ : ∃ V, w6.alloc (.cells #[.int .i64 7] 3) = V := ⟨_, rfl⟩
  have HS6 : Hid (V6.heap.size = w.heap.size + 5) := Lib.hid (by rw [← hV, World.size_alloc, HS6.out])
  rw [hV] at HM6 HB6 HK1 HK2 HK3 HK4 ⊢
  clear hV HBm
  go_wp2_with (refine wp_set rfl 49 _ _ _ rfl w.heap.size ⟨#[43, 76, 79, 79, 80]⟩ (.func (.func 42) #[] #[.pointer (some ⟨w.heap.size + 4, 0, none⟩)]) rfl rfl rfl 9 48 setMapU Tryd.underlying9 6 _ HM6.out (by kernel_rfl) ?_)
  intro w7 hm hg hsz
  have HM7 : Hid (Mp w7 w.heap.size ((tabE w.heap.size).take 7).toArray 7) := Lib.hid hm
  have HB7 := Lib.hid (below_grown HB6.out HB6.out.size hg (Nat.le_refl _))
  have HS7 : Hid (w7.heap.size = w.heap.size + 5) := Lib.hid (by first | exact hsz | (rw [hsz, HS6.out]))
  have HK1 := Lib.hid (hg.cell HK1.out (fun e => by injection e with e; have e : w.heap.size + 1 = w.heap.size := e; omega))
  have HK2 := Lib.hid (hg.cell HK2.out (fun e => by injection e with e; have e : w.heap.size + 2 = w.heap.size := e; omega))
  have HK3 := Lib.hid (hg.cell HK3.out (fun e => by injection e with e; have e : w.heap.size + 3 = w.heap.size := e; omega))
  have HK4 := Lib.hid (hg.cell HK4.out (fun e => by injection e with e; have e : w.heap.size + 4 = w.heap.size := e; omega))
  clear hm hg hsz
  go_wp2_with (refine wp_set rfl 49 _ _ _ rfl w.heap.size ⟨#[84, 72, 69, 78]⟩ (.func (.func 49) #[] #[]) rfl rfl rfl 9 48 setMapU Tryd.underlying9 7 _ HM7.out (by kernel_rfl) ?_)
  intro w8 hm hg hsz
  have HM8 : Hid (Mp w8 w.heap.size ((tabE w.heap.size).take 8).toArray 8) := Lib.hid hm
  have HB8 := Lib.hid (below_grown HB7.out HB7.out.size hg (Nat.le_refl _))
  have HS8 : Hid (w8.heap.size = w.heap.size + 5) := Lib.hid (by first | exact hsz | (rw [hsz, HS7.out]))
  have HK1 := Lib.hid (hg.cell HK1.out (fun e => by injection e with e; have e : w.heap.size + 1 = w.heap.size := e; omega))
  have HK2 := Lib.hid (hg.cell HK2.out (fun e => by injection e with e; have e : w.heap.size + 2 = w.heap.size := e; omega))
  have HK3 := Lib.hid (hg.cell HK3.out (fun e => by injection e with e; have e : w.heap.size + 3 = w.heap.size := e; omega))
  have HK4 := Lib.hid (hg.cell HK4.out (fun e => by injection e with e; have e : w.heap.size + 4 = w.heap.size := e; omega))
  clear hm hg hsz
  go_wp2_with (refine wp_set rfl 49 _ _ _ rfl w.heap.size ⟨#[69, 76, 83, 69]⟩ (.func (.func 50) #[] #[]) rfl rfl rfl 9 48 setMapU Tryd.underlying9 8 _ HM8.out (by kernel_rfl) ?_)
  intro w9 hm hg hsz
  have HM9 : Hid (Mp w9 w.heap.size ((tabE w.heap.size).take 9).toArray 9) := Lib.hid hm
  have HB9 := Lib.hid (below_grown HB8.out HB8.out.size hg (Nat.le_refl _))
  have HS9 : Hid (w9.heap.size = w.heap.size + 5) := Lib.hid (by first | exact hsz | (rw [hsz, HS8.out]))
  have HK1 := Lib.hid (hg.cell HK1.out (fun e => by injection e with e; have e : w.heap.size + 1 = w.heap.size := e; omega))
  have HK2 := Lib.hid (hg.cell HK2.out (fun e => by injection e with e; have e : w.heap.size + 2 = w.heap.size := e; omega))
  have HK3 := Lib.hid (hg.cell HK3.out (fun e => by injection e with e; have e : w.heap.size + 3 = w.heap.size := e; omega))
  have HK4 := Lib.hid (hg.cell HK4.out (fun e => by injection e with e; have e : w.heap.size + 4 = w.heap.size := e; omega))
  clear hm hg hsz
  go_wp2_with (refine wp_set rfl 49 _ _ _ rfl w.heap.size ⟨#[87, 72, 73, 76, 69]⟩ (.func (.func 53) #[] #[]) rfl rfl rfl 9 48 setMapU Tryd.underlying9 9 _ HM9.out (by kernel_rfl) ?_)
  intro w10 hm hg hsz
  have HM10 : Hid (Mp w10 w.heap.size ((tabE w.heap.size).take 10).toArray 10) := Lib.hid hm
  have HB10 := Lib.hid (below_grown HB9.out HB9.out.size hg (Nat.le_refl _))
  have HS10 : Hid (w10.heap.size = w.heap.size + 5) := Lib.hid (by first | exact hsz | (rw [hsz, HS9.out]))
  have HK1 := Lib.hid (hg.cell HK1.out (fun e => by injection e with e; have e : w.heap.size + 1 = w.heap.size := e; omega))
  have HK2 := Lib.hid (hg.cell HK2.out (fun e => by injection e with e; have e : w.heap.size + 2 = w.heap.size := e; omega))
  have HK3 := Lib.hid (hg.cell HK3.out (fun e => by injection e with e; have e : w.heap.size + 3 = w.heap.size := e; omega))
  have HK4 := Lib.hid (hg.cell HK4.out (fun e => by injection e with e; have e : w.heap.size + 4 = w.heap.size := e; omega))
  clear hm hg hsz
  go_wp2_with (refine wp_set rfl 49 _ _ _ rfl w.heap.size ⟨#[82, 69, 80, 69, 65, 84]⟩ (.func (.func 54) #[] #[]) rfl rfl rfl 9 48 setMapU Tryd.underlying9 10 _ HM10.out (by kernel_rfl) ?_)
  intro w11 hm hg hsz
  have HM11 : Hid (Mp w11 w.heap.size ((tabE w.heap.size).take 11).toArray 11) := Lib.hid hm
  have HB11 := Lib.hid (below_grown HB10.out HB10.out.size hg (Nat.le_refl _))
  have HS11 : Hid (w11.heap.size = w.heap.size + 5) := Lib.hid (by first | exact hsz | (rw [hsz, HS10.out]))
  have HK1 := Lib.hid (hg.cell HK1.out (fun e => by injection e with e; have e : w.heap.size + 1 = w.heap.size := e; omega))
  have HK2 := Lib.hid (hg.cell HK2.out (fun e => by injection e with e; have e : w.heap.size + 2 = w.heap.size := e; omega))
  have HK3 := Lib.hid (hg.cell HK3.out (fun e => by injection e with e; have e : w.heap.size + 3 = w.heap.size := e; omega))
  have HK4 := Lib.hid (hg.cell HK4.out (fun e => by injection e with e; have e : w.heap.size + 4 = w.heap.size := e; omega))
  clear hm hg hsz
  go_wp2_with (refine wp_set rfl 49 _ _ _ rfl w.heap.size ⟨#[82, 69, 67, 85, 82, 83, 69]⟩ (.func (.func 56) #[] #[]) rfl rfl rfl 9 48 setMapU Tryd.underlying9 11 _ HM11.out (by kernel_rfl) ?_)
  intro w12 hm hg hsz
  have HM12 : Hid (Mp w12 w.heap.size ((tabE w.heap.size).take 12).toArray 12) := Lib.hid hm
  have HB12 := Lib.hid (below_grown HB11.out HB11.out.size hg (Nat.le_refl _))
  have HS12 : Hid (w12.heap.size = w.heap.size + 5) := Lib.hid (by first | exact hsz | (rw [hsz, HS11.out]))
  have HK1 := Lib.hid (hg.cell HK1.out (fun e => by injection e with e; have e : w.heap.size + 1 = w.heap.size := e; omega))
  have HK2 := Lib.hid (hg.cell HK2.out (fun e => by injection e with e; have e : w.heap.size + 2 = w.heap.size := e; omega))
  have HK3 := Lib.hid (hg.cell HK3.out (fun e => by injection e with e; have e : w.heap.size + 3 = w.heap.size := e; omega))
  have HK4 := Lib.hid (hg.cell HK4.out (fun e => by injection e with e; have e : w.heap.size + 4 = w.heap.size := e; omega))
  clear hm hg hsz
  go_wp2
  go_ret
  exact ⟨rfl, ⟨HM12.out, HK1.out, HK2.out, HK3.out, HK4.out⟩, HB12.out⟩
end Go.Proofs.YtfkkmlgblhnkaaaDoor
