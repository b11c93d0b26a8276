
/- Words on slices that are read, and on rows of the call's own: no program in sight. -/
import Derived.WalkKit
import Derived.RowKit
import Derived.WalkSpells
import Derived.DataElems
import Derived.Laws.BytesArg
import Derived.Lib.Hide
import Derived.Deep.Draws
import Derived.Deep.OwnRows
import Derived.Laws.MakeOwn
import Derived.Laws.CopyOwn
import Derived.Laws.AppendOwnNone
import Derived.KernelRfl
namespace Go.Proofs.YticebanhccgglaaDoor
open Go.RowKit

/-- Numbers as cells. -/
def nums (k : IntKind) (xs : List Int) : List Value := xs.map (.int k)
theorem nums_length (k : IntKind) (xs : List Int) : (nums k xs).length = xs.length := by simp [nums]
theorem nums_get {k : IntKind} {xs : List Int} {j : Nat} (h : j < xs.length) : (nums k xs)[j]? = some (.int k (xs.getD j 0)) := by
  simp [nums, List.getElem?_eq_getElem h, List.getD_eq_getElem?_getD]
theorem nums_one (k : IntKind) (xs : List Int) : ∀ v ∈ nums k xs, v.oneCell' = true := by
  intro v hv
  obtain ⟨x, _, rfl⟩ := List.mem_map.1 hv
  rfl

/-- A slice of n elements, of so many cells each, reads as these cells. -/
structure Rd (w : World) (A : Option Addr) (n c size : Nat) (cs : List Value) : Prop where
  len : cs.length = n * size
  le : n ≤ c
  cap : c ≤ maxLen
  nil : A = none → c = 0
  cell : ∀ j u, cs[j]? = some u → ∃ ad, A = some ad ∧ w.cell? (ad.add j) = some u

theorem Rd.below {w w' : World} {A : Option Addr} {n c size : Nat} {cs : List Value} (h : Rd w A n c size cs) (hb : Below w.heap.size w w') : Rd w' A n c size cs :=
  ⟨h.len, h.le, h.cap, h.nil, fun j u hj => by
    obtain ⟨ad, e, hc⟩ := h.cell j u hj
    exact ⟨ad, e, (hb.cell (World.block_lt_of_cell? w _ hc)).trans hc⟩⟩
theorem Rd.drewN {w : World} {m : Nat} {A : Option Addr} {n c size : Nat} {cs : List Value} (h : Rd w A n c size cs) : Rd (w.drewN m) A n c size cs :=
  ⟨h.len, h.le, h.cap, h.nil, h.cell⟩

/-- As the source of a copy, or of an append. -/
theorem Rd.src {w W : World} {A : Option Addr} {n c size : Nat} {cs : List Value} (h : Rd w A n c size cs) (hb : Below w.heap.size w W) (h0 : 0 < cs.length) :
    ∃ ad, A = some ad ∧ ∀ j v, cs[j]? = some v → W.cell? (ad.add j) = some v := by
  have h' := h.below hb
  obtain ⟨ad, rfl, _⟩ := h'.cell 0 _ (List.getElem?_eq_getElem h0)
  refine ⟨ad, rfl, fun j v hj => ?_⟩
  obtain ⟨ad', e, hc⟩ := h'.cell j v hj
  cases e
  exact hc

/-- Of numbers. -/
abbrev RdI (w : World) (k : IntKind) (A : Option Addr) (c : Nat) (xs : List Int) : Prop := Rd w A xs.length c 1 (nums k xs)
theorem RdI.at_ {w : World} {k : IntKind} {A : Option Addr} {c : Nat} {xs : List Int} (h : RdI w k A c xs) {j : Nat} (hj : j < xs.length) :
    ∃ ad, A = some ad ∧ w.cell? (ad.add j) = some (.int k (xs.getD j 0)) := h.cell j _ (nums_get hj)
/-- All of them, behind one address. -/
theorem RdI.all {w : World} {k : IntKind} {A : Option Addr} {c : Nat} {xs : List Int} (h : RdI w k A c xs) (h0 : 0 < xs.length) :
    ∃ ad, A = some ad ∧ ∀ j, j < xs.length → w.cell? (ad.add j) = some (.int k (xs.getD j 0)) := by
  obtain ⟨ad, rfl, _⟩ := h.at_ h0
  refine ⟨ad, rfl, fun j hj => ?_⟩
  obtain ⟨ad', e, hc⟩ := h.at_ hj
  cases e
  exact hc

/-- A cut of a slice: its address stays, where nothing is left of its room. -/
def cutA (A : Option Addr) (i m : Nat) : Option Addr := if m = 0 then A else A.map (·.add i)
theorem RdI.cut {w : World} {k : IntKind} {A : Option Addr} {c : Nat} {xs : List Int} (h : RdI w k A c xs) (i m c' : Nat) (hi : i + m ≤ xs.length) (hm : m ≤ c') (hc : c' ≤ c) :
    RdI w k (cutA A i c') c' ((xs.drop i).take m) := by
  have e : ((xs.drop i).take m).length = m := by simp; omega
  refine ⟨by simp [nums], by omega, Nat.le_trans hc h.cap, fun hn => ?_, fun j u hj => ?_⟩
  · rcases Nat.eq_zero_or_pos c' with h0 | h0
    · exact h0
    · cases A with
      | none => have := h.nil rfl; omega
      | some ad => simp [cutA, show ¬ c' = 0 by omega] at hn
  have hj' : j < m := by
    have := (List.getElem?_eq_some_iff.1 hj).1
    rw [nums_length, e] at this
    exact this
  rw [nums_get (by omega)] at hj
  injection hj with hj
  subst hj
  obtain ⟨ad, rfl, hcell⟩ := h.at_ (j := i + j) (by omega)
  refine ⟨ad.add i, by simp [cutA, show ¬ c' = 0 by omega], ?_⟩
  rw [Addr.add_add, hcell]
  simp [List.getD_eq_getElem?_getD, hj']

/-- What is owned is read. -/
theorem Rd.own {w : World} {base n size : Nat} {e : TypeId} {v : Value} {cs : List Value} (h : w.ownsRow base e size v n cs) :
    ∃ A c, v = .slice A n c ∧ Rd w A n c size cs := by
  have h1 := h.1
  rcases h.2 with ⟨rfl, rfl⟩ | ⟨g, cap, cur, rfl, _, hh, hn, hm, hs, ht⟩
  · exact ⟨none, 0, rfl, h1, by omega, by decide, fun _ => rfl, fun j u hj => by
      obtain rfl : cs = [] := List.eq_nil_of_length_eq_zero (by simpa using h1)
      simp at hj⟩
  · exact ⟨_, cap, rfl, h1, hn, hm, fun h => by simp at h, fun j u hj => ⟨_, rfl, h.cells (g := g) rfl j u hj⟩⟩

theorem own_below {w w1 : World} {base n size : Nat} {e : TypeId} {v : Value} {cs : List Value} (h : w.ownsRow base e size v n cs) (hb : Below w.heap.size w w1) : w1.ownsRow base e size v n cs :=
  h.kept ⟨hb.os, hb.tape, hb.output, hb.size, fun k hk _ => hb.block k hk⟩ (row := none) (by cases v.ownBlock <;> simp)

theorem own_form {w : World} {base n size : Nat} {e : TypeId} {v : Value} {cs : List Value} (h : w.ownsRow base e size v n cs) (h0 : 0 < n) :
    ∃ g cap, v = .slice (some ⟨g, 0, none⟩) n cap ∧ base ≤ g ∧ g < w.heap.size ∧ n ≤ cap ∧ cap ≤ maxLen := by
  rcases h.2 with ⟨_, h1⟩ | ⟨g, cap, cur, rfl, hg, hh, h1, h2, _⟩
  · omega
  · exact ⟨g, cap, rfl, hg, (Array.getElem?_eq_some_iff.1 hh).1, h1, h2⟩
theorem own_mono {w : World} {base base' n size : Nat} {e : TypeId} {v : Value} {cs : List Value} (h : w.ownsRow base e size v n cs) (hb : base' ≤ base) : w.ownsRow base' e size v n cs := by
  obtain ⟨h1, h2⟩ := h
  refine ⟨h1, ?_⟩
  rcases h2 with h2 | ⟨g, cap, cur, hv, hg, r⟩
  · exact .inl h2
  · exact .inr ⟨g, cap, cur, hv, by omega, r⟩
/-- Two steps: the second one leaves what was there when it began. -/
theorem below_two {w w1 w2 : World} (h : Below w.heap.size w w1) (k : Below w1.heap.size w1 w2) : Below w.heap.size w w2 := h.trans (k.mono h.size)

theorem rd_block {w : World} {g : Nat} {cs : List Value} {arr : Array Value} {t : TypeId} {fr : Nat × Nat} {n c size : Nat} (hh : w.heap[g]? = some (.cells arr t fr)) (h : arr.toList = cs) (hn : cs.length = n * size) (hc : n ≤ c) (hm : c ≤ maxLen) :
    Rd w (some ⟨g, 0, none⟩) n c size cs :=
  ⟨hn, hc, hm, fun h => by simp at h, fun j u hj => ⟨_, rfl, by
    subst h
    rw [Addr.add_lit]
    simp only [World.cell?, hh, Nat.zero_add]
    simpa using hj⟩⟩
theorem rd_alloc (w : World) (cs : List Value) (arr : Array Value) (t : TypeId) (fr : Nat × Nat) (n c size : Nat) (h : arr.toList = cs) (hn : cs.length = n * size) (hc : n ≤ c) (hm : c ≤ maxLen) :
    Rd (w.alloc (.cells arr t fr)) (some ⟨w.heap.size, 0, none⟩) n c size cs := rd_block (heap_alloc_new _ _) h hn hc hm

/-- What a given slice of numbers reads as (the row's own words). -/
theorem RdI.given {w : World} {k : IntKind} {a : Option Addr} {n c : Nat} {zs : List Int}
    (h : (a = none ∧ n = 0 ∧ c = 0 ∧ zs = []) ∨ ∃ x, a = some x ∧ n ≤ c ∧ c ≤ maxLen ∧ zs.length = c ∧ (∀ i, i < zs.length → w.cell? (x.add i) = some (.int k (zs.getD i 0))) ∧ ∀ y ∈ zs, (Lit.int k y).wf = true) :
    ∃ xs, n = xs.length ∧ RdI w k a c xs ∧ ∀ y ∈ xs, (Lit.int k y).wf = true := by
  rcases h with ⟨rfl, rfl, rfl, rfl⟩ | ⟨x, rfl, h1, h2, h3, h4, h5⟩
  · exact ⟨[], rfl, ⟨rfl, by simp, by decide, fun _ => rfl, fun j u hj => by simp [nums] at hj⟩, by simp⟩
  · refine ⟨zs.take n, by simp; omega, ⟨by simp [nums], by simp; omega, h2, fun h => by simp at h, fun j u hj => ⟨x, rfl, ?_⟩⟩, fun y hy => h5 y (List.mem_of_mem_take hy)⟩
    have hj' : j < (zs.take n).length := by
      have := (List.getElem?_eq_some_iff.1 hj).1
      rwa [nums_length] at this
    rw [nums_get hj'] at hj
    injection hj with hj
    subst hj
    rw [List.length_take] at hj'
    rw [h4 j (by omega)]
    simp [List.getD_eq_getElem?_getD, show j < n by omega]

/-- Numbers of bytes as a text. -/
def strOf (xs : List Int) : ByteArray := strOfNums xs

theorem conv_rd {P : Program} {w : World} {src dst e : TypeId} {A : Option Addr} {c : Nat} {xs : List Int} (hs : P.underlying src = some (.slice e)) (he : P.underlying e = some (.int .u8)) (hd : P.underlying dst = some .string)
    (h : RdI w .u8 A c xs) : (convert src dst (.slice A xs.length c)).run P w = .ok (.string (strOf xs)) w := by
  have some_ (ad : Addr) (hcell : ∀ i, i < xs.length → w.cell? (ad.add i) = some (.int .u8 (xs.getD i 0))) : (convert src dst (.slice (some ad) xs.length c)).run P w = .ok (.string (strOf xs)) w := by
    have hl : (loadCells ad xs.length).run P w = .ok (xs.map (Value.int .u8)).toArray w := by
      have := run_loadCells_list (P := P) w ad (xs.map (Value.int .u8)) (fun j v hj => by
        have hjl : j < xs.length := by
          rcases Nat.lt_or_ge j xs.length with h | h
          · exact h
          · simp [List.getElem?_eq_none (show (xs.map (Value.int .u8)).length ≤ j by simpa using h)] at hj
        rw [hcell j (by omega)]
        simp [List.getElem?_eq_getElem hjl] at hj
        subst hj
        simp [List.getD, List.getElem?_eq_getElem hjl])
      simpa using this
    rw [run_convert_bytes_string w src dst e _ xs.length c hs he hd, run_bytesToString w _ xs.length c xs hl, foldl_push_bytes]
    simp [strOf, strOfNums, ByteArray.empty, ByteArray.emptyWithCapacity]
    rfl
  rcases Nat.eq_zero_or_pos xs.length with h0 | h0
  · obtain rfl : xs = [] := List.eq_nil_of_length_eq_zero h0
    cases A with
    | none => exact run_convert_bytes_nil w src e hs he 0 c dst hd
    | some ad => exact some_ ad (fun i hi => absurd hi (by simp))
  · obtain ⟨ad, rfl, hc⟩ := h.all h0
    exact some_ ad hc

/-! ### make -/
theorem madeCells_nums (k : IntKind) (m : Nat) : madeCells #[.int k 0] m = (nums k (List.replicate m 0)).toArray := by
  apply Array.ext'
  simp [madeCells, nums, List.map_const', Nat.mod_one]
theorem make_nums {P : Program} (t e : TypeId) (k : IntKind) (bytes : Nat) (ht : P.underlying t = some (.slice e)) (hinfo : (P.info? e).map (fun i => (i.zero, i.size, i.bytes)) = some (some (.int k 0), 1, bytes))
    (m : Nat) (hb : bytes * m ≤ 281474976710656) (h63 : m ≤ 9223372036854775807) :
    ∀ W : World, (Instr.makeSlice t (.int .i64 (m : Int)) (.int .i64 (m : Int))).run P W = .ok (.slice (some ⟨W.heap.size, 0, none⟩) m m) (W.alloc (.cells (nums k (List.replicate m 0)).toArray e (0, 0))) := by
  intro W
  rw [← madeCells_nums]
  exact run_make_row' t e (.int k 0) bytes ht hinfo rfl .i64 .i64 m hb h63 W

/-- A block that is known whole is owned. -/
theorem own_block {w : World} {base g : Nat} {e : TypeId} {cs : List Value} (hh : w.heap[g]? = some (.cells cs.toArray e (0, 0))) (hg : base ≤ g) (hl : cs.length ≤ maxLen) :
    w.ownsRow base e 1 (.slice (some ⟨g, 0, none⟩) cs.length cs.length) cs.length cs :=
  ⟨by simp, .inr ⟨g, cs.length, cs.toArray, rfl, hg, hh, Nat.le_refl _, hl, by simp, by simp⟩⟩

theorem nums_splice (k : IntKind) (xs ys : List Int) (i : Nat) : splice (nums k xs) i (nums k ys) = nums k (splice xs i ys) := by simp [splice, nums]


/-- A slice that is nil, or has nothing. -/
theorem rd_nil (w : World) (size : Nat) : Rd w none 0 0 size [] := ⟨by simp, Nat.le_refl _, by decide, fun _ => rfl, fun j u hj => by simp at hj⟩

/-- The bounds of whole numbers that are given. -/
theorem wf_i64 {n : Int} (h : (Lit.int .i64 n).wf = true) : -9223372036854775808 ≤ n ∧ n ≤ 9223372036854775807 := by
  have e1 : IntKind.i64.min = -9223372036854775808 := by decide
  have e2 : IntKind.i64.max = 9223372036854775807 := by decide
  simp [Lit.wf] at h
  omega
theorem wf_u8 {n : Int} (h : (Lit.int .u8 n).wf = true) : 0 ≤ n ∧ n < 256 := by
  have e1 : IntKind.u8.min = 0 := by decide
  have e2 : IntKind.u8.max = 255 := by decide
  simp [Lit.wf] at h
  omega

/-! ### append to a row of the call's own -/
theorem wp_app {P : Program} {ops : Array Oper} {rest : List Oper} {o : Oper} {a : Act} {Q : Exit → Act → World → Prop} {w0 w : World} (hgd : o.guard = none) (s x : Operand) (t e : TypeId) (z : Value) (size bytes : Nat)
    (ho : o.op = .call { callee := .builtin .append, args := #[s, x], argTypes := #[t, t] }) (ht : P.underlying t = some (.slice e))
    (hinfo : (P.info? e).map (fun i => (i.zero, i.size, i.bytes)) = some (some z, size, bytes)) (hzs : z.cells.size = size) (hsz : 0 < size) (hb0 : 0 < bytes)
    (B : Nat) (v : Value) (n : Nat) (xs : List Value) (hs : a.eval s = v) (hown : w.ownsRow B e size v n xs)
    (A : Option Addr) (m c : Nat) (news : List Value) (hx : a.eval x = .slice A m c) (hrd : Rd w A m c size news) (h1 : ∀ u ∈ news, u.oneCell' = true)
    (hbytes : (n + m) * bytes ≤ 140737488355328) (hB : B ≤ w.heap.size) (hbel : Below B w0 w)
    (h : ∀ v' w', w'.ownsRow B e size v' (n + m) (xs ++ news) → Below B w0 w' → w.grownBy w' v.ownBlock → wpList P ops Q rest (a.put o.dst v') w') : wpList P ops Q (o :: rest) a w := by
  obtain ⟨i0, hi, hzz⟩ := Option.map_eq_some_iff.1 hinfo
  simp only [Prod.mk.injEq] at hzz
  obtain ⟨hz0, hz1, hz2⟩ := hzz
  have hnm : n + m ≤ 140737488355328 := Nat.le_trans (Nat.le_mul_of_pos_right _ hb0) hbytes
  cases A with
  | none =>
    obtain rfl := hrd.nil rfl
    obtain rfl : m = 0 := by have := hrd.le; omega
    obtain rfl : news = [] := List.eq_nil_of_length_eq_zero (by simpa using hrd.len)
    refine wpList_append_own_none hgd s x t ho B e i0 size ht hi v n xs hs hown hx (h v w (by simpa using hown) hbel ⟨rfl, rfl, rfl, Nat.le_refl _, fun _ _ _ => rfl⟩)
  | some ad =>
    refine wpList_append_own (w := w) hgd s x t ho B e i0 z size bytes ht hi hz0 hz1 hz2 hzs hsz v n xs hs hown ad m c news hx hrd.len (fun j u hj => ?_) h1 (by simp only [maxLen]; omega) hbytes hB ?_
    · obtain ⟨ad', e1, hc⟩ := hrd.cell j u hj
      cases e1
      exact hc
    · intro v' w' ho' hg _
      exact h v' w' ho' (hbel.grown hg hB fun k hk => (by
        rcases hown.2 with ⟨rfl, _⟩ | ⟨g, cap, cur, rfl, hb, _⟩
        · simp [Value.ownBlock] at hk
        · have : g = k := by simpa [Value.ownBlock] using hk
          omega)) hg

theorem splice_snoc {α : Type} (l ys : List α) (i : Nat) (y : α) (h : i + ys.length < l.length) : splice l i (ys ++ [y]) = (splice l i ys).set (i + ys.length) y := by
  simp only [splice, List.append_assoc, List.length_append, List.length_singleton]
  rw [List.set_append_right _ _ (by simp; omega)]
  congr 1
  rw [List.set_append_right _ _ (by simp; omega)]
  congr 1
  have e : i + ys.length - (l.take i).length - ys.length = 0 := by simp; omega
  rw [e]
  have d : l.drop (i + ys.length) = l[i + ys.length] :: l.drop (i + ys.length + 1) := List.drop_eq_getElem_cons h
  rw [d]
  rfl
theorem splice_nil {α : Type} (l : List α) (i : Nat) : splice l i [] = l := by simp [splice]
theorem nums_set (k : IntKind) (l : List Int) (i : Nat) (x : Int) : (nums k l).set i (.int k x) = nums k (l.set i x) := by simp [nums, List.map_set]

/-- One element appended: it lies in a block of its own, just made. -/
theorem wp_app1 {P : Program} {ops : Array Oper} {rest : List Oper} {o : Oper} {a : Act} {Q : Exit → Act → World → Prop} {w0 w : World} (hgd : o.guard = none) (s x : Operand) (t e : TypeId) (z : Value) (bytes : Nat)
    (ho : o.op = .call { callee := .builtin .append, args := #[s, x], argTypes := #[t, t] }) (ht : P.underlying t = some (.slice e))
    (hinfo : (P.info? e).map (fun i => (i.zero, i.size, i.bytes)) = some (some z, 1, bytes)) (hzs : z.cells.size = 1) (hb0 : 0 < bytes)
    (B : Nat) (v : Value) (n : Nat) (xs : List Value) (y : Value) (hs : a.eval s = v) (hown : w.ownsRow B e 1 v n xs)
    (hx : a.eval x = .slice (some ⟨w.heap.size, 0, none⟩) 1 1) (h1 : y.oneCell' = true)
    (hbytes : (n + 1) * bytes ≤ 140737488355328) (hB : B ≤ w.heap.size) (hbel : Below B w0 w)
    (h : ∀ v' w', w'.ownsRow B e 1 v' (n + 1) (xs ++ [y]) → Below B w0 w' → (w.alloc (.cells #[y] e)).grownBy w' v.ownBlock → wpList P ops Q rest (a.put o.dst v') w') : wpList P ops Q (o :: rest) a (w.alloc (.cells #[y] e)) :=
  wp_app (w0 := w0) hgd s x t e z 1 bytes ho ht hinfo hzs (by decide) hb0 B v n xs hs (hown.alloc _) (some ⟨w.heap.size, 0, none⟩) 1 1 [y] hx (rd_alloc w [y] #[y] e (0, 0) 1 1 1 rfl rfl (by decide) (by decide))
    (fun u hu => by simp at hu; subst hu; exact h1) hbytes (by simp; omega) (hbel.alloc hB _) h

/-- A literal without elements. -/
theorem own_empty {w : World} {B g : Nat} {e : TypeId} {size : Nat} (hh : w.heap[g]? = some (.cells #[] e (0, 0))) (hg : B ≤ g) : w.ownsRow B e size (.slice (some ⟨g, 0, none⟩) 0 0) 0 [] :=
  ⟨by simp, .inr ⟨g, 0, #[], rfl, hg, hh, Nat.le_refl _, by decide, by simp, by simp⟩⟩

end Go.Proofs.YticebanhccgglaaDoor
