
/- A reader in memory; New, Err, End, ends. -/
import Derived.Test.YticebanhccgglaaDoorRef16
import Derived.Test.YticebanhccgglaaDoorPlain16b
namespace Go.Proofs.YticebanhccgglaaDoor
open Go.RowKit

/-! ### Only block g may have turned -/
structure Only (g : Nat) (w w' : World) : Prop where
  os : w'.os = w.os
  tape : w'.tape = w.tape
  output : w'.output = w.output
  size : w.heap.size ≤ w'.heap.size
  block : ∀ k, k < w.heap.size → k ≠ g → w'.heap[k]? = w.heap[k]?
theorem Only.refl (g : Nat) (w : World) : Only g w w := ⟨rfl, rfl, rfl, Nat.le_refl _, fun _ _ _ => rfl⟩
theorem Only.trans {g : Nat} {a b c : World} (h : Only g a b) (k : Only g b c) : Only g a c :=
  ⟨k.os.trans h.os, k.tape.trans h.tape, k.output.trans h.output, Nat.le_trans h.size k.size, fun i hi hg => (k.block i (Nat.lt_of_lt_of_le hi h.size) hg).trans (h.block i hi hg)⟩
theorem Only.of {g : Nat} {w w' : World} (h : Below w.heap.size w w') : Only g w w' := ⟨h.os, h.tape, h.output, h.size, fun k hk _ => h.block k hk⟩
theorem Only.setCell {g : Nat} {a w : World} (h : Only g a w) (i : Nat) (u : Value) : Only g a (w.setCell ⟨g, i, none⟩ u) :=
  h.trans ⟨rfl, rfl, rfl, by simp [World.setCell], fun k _ hg => Below.heap_setCell _ _ _ _ hg⟩
theorem Only.setNew {g : Nat} {a w : World} (h : Only g a w) {p : Addr} (hp : a.heap.size ≤ p.block) (u : Value) : Only g a (w.setCell p u) :=
  ⟨h.os, h.tape, h.output, by simp only [World.setCell, Array.size_modify]; exact h.size, fun k hk hg => (Below.heap_setCell _ _ _ _ (by omega)).trans (h.block k hk hg)⟩
theorem Only.alloc {g : Nat} {a w : World} (h : Only g a w) (o : Obj) : Only g a (w.alloc o) :=
  h.trans (Only.of (below_lit w o))
theorem Only.below {g B : Nat} {w w' : World} (h : Only g w w') (hg : B ≤ g) (hB : B ≤ w.heap.size) : Below B w w' := ⟨h.os, h.tape, h.output, h.size, fun k hk => h.block k (by omega) (by omega)⟩
theorem Only.cell {g : Nat} {w w' : World} (h : Only g w w') {p : Addr} {v : Value} (hp : w.cell? p = some v) (hg : p.block ≠ g) : w'.cell? p = some v :=
  (World.cell?_of_block (w := w) (h.block p.block (World.block_lt_of_cell? w _ hp) hg)).trans hp
theorem Only.frozen {g : Nat} {w w' : World} (h : Only g w w') {p : Addr} (hp : p.block < w.heap.size) (hg : p.block ≠ g) : w'.frozen? p = w.frozen? p :=
  World.frozen?_of_block (w := w) (h.block p.block hp hg)

/-- Bytes that don't lie in block g. -/
def Dat (w : World) (g : Nat) (A : Option Addr) (c : Nat) (l : List Int) : Prop := RdI w .u8 A c l ∧ (0 < l.length → ∀ ad, A = some ad → ad.block ≠ g)
theorem add_block (ad : Addr) (n : Nat) : (ad.add n).block = ad.block := by
  unfold Addr.add
  split <;> rfl
theorem Dat.only {w w' : World} {g : Nat} {A : Option Addr} {c : Nat} {l : List Int} (h : Dat w g A c l) (ho : Only g w w') : Dat w' g A c l :=
  ⟨⟨h.1.len, h.1.le, h.1.cap, h.1.nil, fun j u hj => by
    obtain ⟨ad, rfl, hc⟩ := h.1.cell j u hj
    have hl : 0 < l.length := by
      have := (List.getElem?_eq_some_iff.1 hj).1
      rw [nums_length] at this
      omega
    exact ⟨ad, rfl, ho.cell hc (by rw [add_block]; exact h.2 hl ad rfl)⟩⟩, h.2⟩
theorem Dat.cut {w : World} {g : Nat} {A : Option Addr} {c : Nat} {l : List Int} (h : Dat w g A c l) (i m c' : Nat) (hi : i + m ≤ l.length) (hm : m ≤ c') (hc : c' ≤ c) : Dat w g (cutA A i c') c' ((l.drop i).take m) :=
  ⟨h.1.cut i m c' hi hm hc, fun hl ad ha => by
    have hl2 : 0 < l.length := by
      rw [List.length_take, List.length_drop] at hl
      omega
    unfold cutA at ha
    split at ha
    · exact h.2 hl2 ad ha
    · cases A with
      | none => simp at ha
      | some x =>
        simp at ha
        subst ha
        rw [add_block]
        exact h.2 hl2 x rfl⟩

/-- A reader: what is left, and what is wrong. -/
structure RdrC (w : World) (g : Nat) (v : Value) (e : Int) : Prop where
  c0 : w.cell? ⟨g, 0, none⟩ = some v
  c1 : w.cell? ⟨g, 1, none⟩ = some (.int .i64 e)
  f0 : w.frozen? ⟨g, 0, none⟩ = false
  f1 : w.frozen? ⟨g, 1, none⟩ = false
structure Rdr (w : World) (g : Nat) (A : Option Addr) (c : Nat) (l : List Int) (e : Int) : Prop where
  st : RdrC w g (.slice A l.length c) e
  d : Dat w g A c l
  b : ∀ x ∈ l, 0 ≤ x ∧ x < 256
theorem RdrC.same {w w' : World} {g : Nat} {v : Value} {e : Int} (h : RdrC w g v e) (hb : w'.heap[g]? = w.heap[g]?) : RdrC w' g v e :=
  ⟨(World.cell?_of_block (w := w) hb).trans h.c0, (World.cell?_of_block (w := w) hb).trans h.c1, (World.frozen?_of_block (w := w) hb).trans h.f0, (World.frozen?_of_block (w := w) hb).trans h.f1⟩
theorem RdrC.lt {w : World} {g : Nat} {v : Value} {e : Int} (h : RdrC w g v e) : g < w.heap.size := World.block_lt_of_cell? w _ h.c0
theorem Rdr.below {w w' : World} {g : Nat} {A : Option Addr} {c : Nat} {l : List Int} {e : Int} (h : Rdr w g A c l e) (hb : Below w.heap.size w w') : Rdr w' g A c l e :=
  ⟨h.st.same (hb.block g h.st.lt), h.d.only (Only.of hb), h.b⟩
theorem RdrC.set0 {w : World} {g : Nat} {v : Value} {e : Int} (h : RdrC w g v e) (u : Value) : RdrC (w.setCell ⟨g, 0, none⟩ u) g u e :=
  ⟨World.cell?_setCell_same _ _ _ h.c0, by rw [World.cell?_setCell_other _ _ _ _ (by simp)]; exact h.c1, by simpa using h.f0, by simpa using h.f1⟩
theorem RdrC.set1 {w : World} {g : Nat} {v : Value} {e : Int} (h : RdrC w g v e) (x : Int) : RdrC (w.setCell ⟨g, 1, none⟩ (.int .i64 x)) g v x :=
  ⟨by rw [World.cell?_setCell_other _ _ _ _ (by simp)]; exact h.c0, World.cell?_setCell_same _ _ _ h.c1, by simpa using h.f0, by simpa using h.f1⟩

set_option maxHeartbeats 1000000 in
theorem New_any (A : Option Addr) (c n : Nat) (l : List Int) (w : World) (hn : l.length = n) (hx : Rd w A n c 1 (nums .u8 l)) (hb : ∀ x ∈ l, 0 ≤ x ∧ x < 256) :
    Calls Tryd.prog 24 #[.slice A n c] w fun e w' => ∃ g, e = .returned (.pointer (some ⟨g, 0, none⟩)) ∧ g = w.heap.size ∧ Rdr w' g A c l 0 ∧ Below w.heap.size w w' := by
  subst hn
  have hl := below_lit w (.cells #[.slice A l.length c, .int .i64 0] 68)
  have hlt : 0 < l.length → ∀ ad, A = some ad → ad.block ≠ w.heap.size := fun h ad ha => by
    obtain ⟨ad2, e, hc⟩ := RdI.all hx h
    rw [ha] at e
    injection e with e
    subst e
    have := World.block_lt_of_cell? w _ (hc 0 h)
    rw [add_block] at this
    omega
  have HR : Hid (Rdr (w.alloc (.cells #[.slice A l.length c, .int .i64 0] 68)) w.heap.size A c l 0) := Lib.hid ⟨⟨by go_simp, by go_simp, by go_simp, by go_simp⟩, ⟨hx.below hl, hlt⟩, hb⟩
  have HB := Lib.hid hl
  clear hl hx hlt hb
  go_enter Tryd.func24, Tryd.ntmps24
  go_wp2
  go_ret
  exact ⟨_, rfl, rfl, HR.out, HB.out⟩

theorem Err_nil (w : World) : Calls Tryd.prog 26 #[.pointer none] w fun e w' => e = .returned (.int .i64 1) ∧ w = w' := by
  go_enter Tryd.func26, Tryd.ntmps26
  go_wp2
  go_ret
  exact ⟨rfl, rfl⟩
theorem Err_any (g : Nat) (e : Int) (w : World) (hc : w.cell? ⟨g, 1, none⟩ = some (.int .i64 e)) : Calls Tryd.prog 26 #[.pointer (some ⟨g, 0, none⟩)] w fun r w' => r = .returned (.int .i64 e) ∧ w = w' := by
  go_enter Tryd.func26, Tryd.ntmps26
  go_wp2
  go_ret
  exact ⟨rfl, rfl⟩
def endS (l : List Int) (e : Int) : Int := if e = 0 ∧ 0 < l.length then 2 else e
set_option maxHeartbeats 1000000 in
set_option maxRecDepth 100000 in
theorem ends_any (g : Nat) (A : Option Addr) (c : Nat) (l : List Int) (e : Int) (w : World) (h : Rdr w g A c l e) (m : Nat) (er : Int) (hm : endsL l = (m, er)) (hlen : l.length ≤ 1000000) :
    Calls Tryd.prog 34 #[.pointer (some ⟨g, 0, none⟩)] w fun r w' => r = .returned (.tuple #[.int .i64 m, .int .i64 er]) ∧ w = w' := by
  have h0 := h.st.c0
  have HD := Lib.hid h.d.1
  have HR := Lib.hid h.b
  have HM := Lib.hid hm
  clear h hm
  go_enter Tryd.func34, Tryd.ntmps34
  go_wp2_with fail
  go_loop [11] (fun i => ∃ k : Nat, i = .int .i64 k ∧ k ≤ l.length ∧ k < 10 ∧ Hid (k ≤ lead l) ∧ Hid (0 < k → l.getD 0 0 ≠ 128)) (fun i => l.length - (intOf i).toNat)
  case atStart => exact ⟨0, rfl, by omega, by omega, Lib.hid (by omega), Lib.hid (fun h => absurd h (by omega))⟩
  case round =>
    obtain ⟨k, rfl, hk, hk10, HL, HN⟩ := hrel
    by_cases hlt : k < l.length
    · obtain ⟨ad, rfl, hcell⟩ := HD.out.all (by omega)
      have hc := hcell k hlt
      have hc0 : w.cell? ad = some (.int .u8 (l.getD 0 0)) := by simpa [Addr.add] using hcell 0 (by omega)
      clear hcell
      have hyr := HR.out (l.getD k 0) (by rw [List.getD_eq_getElem?_getD, List.getElem?_eq_getElem hlt, Option.getD_some]; exact List.getElem_mem hlt)
      have hzr := HR.out (l.getD 0 0) (by rw [List.getD_eq_getElem?_getD, List.getElem?_eq_getElem (by omega), Option.getD_some]; exact List.getElem_mem (by omega))
      obtain ⟨hs1, hs2⟩ := lead_step l k HL.out hlt
      have hemp : ¬ l.length = 0 := by omega
      have HE : Hid (endsL l = if l.getD 0 0 = 128 ∨ 10 ≤ lead l then (0, 2) else if lead l = l.length then (0, 3) else if lead l = 9 ∧ 129 < l.getD 0 0 then (0, 2) else (lead l + 1, 0)) := Lib.hid (by rw [endsL, if_neg hemp])
      by_cases hk0 : k = 0
      · subst hk0
        clear hc
        generalize hz : l.getD 0 0 = y at *
        clear hemp hyr
        by_cases hy : 128 ≤ y
        · have hl1 := hs1 hy
          clear hs1 hs2
          by_cases hy2 : y = 128
          · have he := HE.out
            rw [HM.out, if_pos (.inl hy2)] at he
            injection he with he1 he2
            subst he1 he2
            have hb : (y == 128) = true := by simpa using hy2
            clear hy2 HE HM hz
            go_wp2
            go_ret2
            exact ⟨rfl, rfl⟩
          · have hb : (y == 128) = false := by simpa using hy2
            have HLL := Lib.hid hl1
            clear hl1
            have HY := Lib.hid hy2
            clear hy2 HE hz
            go_wp2
            go_round
            case rel => exact ⟨1, rfl, by omega, by omega, HLL, Lib.hid (fun _ => HY.out)⟩
            case measure => simp [intOf] <;> omega
        · have hl0 := hs2 hy
          have he := HE.out
          rw [HM.out, if_neg (by omega), if_neg (by omega), if_neg (by omega)] at he
          injection he with he1 he2
          rw [hl0] at he1
          subst he1 he2
          have hb : (y == 128) = false := by rw [beq_eq_false_iff_ne]; omega
          have hy9 : y < 128 := by omega
          clear hs1 hs2 hl0 HE HM hz
          go_wp2
          go_ret2
          exact ⟨rfl, rfl⟩
      · have hk1 : ((k : Int) == 0) = false := by rw [beq_eq_false_iff_ne]; omega
        have hn0 := HN.out (by omega)
        have HZ := Lib.hid hn0
        clear hn0 hemp
        generalize hz : l.getD 0 0 = z at *
        generalize hy' : l.getD k 0 = y at *
        clear hz hy'
        by_cases hy : 128 ≤ y
        · have hl1 := hs1 hy
          clear hs1 hs2
          by_cases hk9 : k = 9
          · have hk2 : ((k : Int) == 9) = true := by rw [beq_iff_eq]; omega
            have he := HE.out
            rw [HM.out, if_pos (.inr (by omega))] at he
            injection he with he1 he2
            subst he1 he2
            clear HE HM hl1 hk9
            go_wp2
            go_ret2
            exact ⟨rfl, rfl⟩
          · have hk2 : ((k : Int) == 9) = false := by rw [beq_eq_false_iff_ne]; omega
            have HLL := Lib.hid hl1
            clear hl1 HE
            go_wp2
            go_round
            case rel => exact ⟨k + 1, by go_num, by omega, by omega, HLL, Lib.hid (fun _ => HZ.out)⟩
            case measure => simp [intOf] <;> omega
        · have hl0 := hs2 hy
          have hy9 : y < 128 := by omega
          have he := HE.out
          have hz1 := HZ.out
          rw [HM.out, if_neg (by omega), if_neg (by omega)] at he
          rw [hl0] at he
          clear hs1 hs2 hl0 HE HM hz1
          by_cases hk9 : k = 9
          · have hk2 : ((k : Int) == 9) = true := by rw [beq_iff_eq]; omega
            by_cases hz9 : 129 < z
            · rw [if_pos ⟨hk9, hz9⟩] at he
              injection he with he1 he2
              subst he1 he2
              clear hk9
              go_wp2
              go_ret2
              exact ⟨rfl, rfl⟩
            · rw [if_neg (by omega)] at he
              injection he with he1 he2
              subst he1 he2
              clear hk9
              go_wp2
              go_ret2
              refine ⟨?_, rfl⟩
              simp
          · have hk2 : ((k : Int) == 9) = false := by rw [beq_eq_false_iff_ne]; omega
            rw [if_neg (by omega)] at he
            injection he with he1 he2
            subst he1 he2
            go_wp2
            go_ret2
            refine ⟨?_, rfl⟩
            simp
    · have hkl : lead l = l.length := by have := lead_le l; have := HL.out; omega
      have he : endsL l = (0, 3) := by
        unfold endsL
        by_cases h1 : l.length = 0
        · rw [if_pos h1]
        · have := HN.out (by omega)
          rw [if_neg h1, if_neg (by omega), if_pos hkl]
      rw [HM.out] at he
      injection he with he1 he2
      subst he1 he2
      clear hkl HM
      go_wp2
      go_ret2
      exact ⟨rfl, rfl⟩
end Go.Proofs.YticebanhccgglaaDoor
