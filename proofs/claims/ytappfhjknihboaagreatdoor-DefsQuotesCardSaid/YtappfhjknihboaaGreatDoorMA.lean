/-  -/
import Derived.WalkKit
import Derived.RowKit
import Derived.WalkSpells
import Derived.DataElems
import Derived.Laws.BytesArg
import Derived.Lib.Hide
import Derived.Deep.Draws
import Derived.Deep.OwnRows
import Derived.Laws.MakeOwn
import Derived.Laws.CopyOwn
import Derived.Laws.AppendOwnNone
import Derived.KernelRfl
import Derived.Lib.Bytealg
import Derived.Laws.RangeAny
import Derived.Laws.RangeString
import Derived.Shelf.Strings.Builder1
import Derived.Test.YtappfhjknihboaaGreatDoorProg
import Derived.Deep.QuietTactic
import Derived.BigQuiet
import Derived.Laws.ResultCell
import Derived.Laws.Tables
import Derived.Laws.Rows
import Derived.Laws.CopyRow
import Derived.Lib.AppendZeros
import Derived.ArgAppend
import Derived.RangeFuncRecord
import Derived.RangeFuncOwn
import Derived.MapKept
import Derived.Shelf.SlicesQ.Reverse
import Derived.Lib.OwnBridge
import Derived.Lib.SliceRun

/- Words on slices that are read, and on rows of the call's own: no program in sight. -/
namespace Go.Proofs.YtappfhjknihboaaGreatDoor
open Go.RowKit

/-- Numbers as cells. -/
def nums (k : IntKind) (xs : List Int) : List Value := xs.map (.int k)
theorem nums_length (k : IntKind) (xs : List Int) : (nums k xs).length = xs.length := by simp [nums]
theorem nums_get {k : IntKind} {xs : List Int} {j : Nat} (h : j < xs.length) : (nums k xs)[j]? = some (.int k (xs.getD j 0)) := by
  simp [nums, List.getElem?_eq_getElem h, List.getD_eq_getElem?_getD]
theorem nums_one (k : IntKind) (xs : List Int) : ∀ v ∈ nums k xs, v.oneCell' = true := by
  intro v hv
  obtain ⟨x, _, rfl⟩ := List.mem_map.1 hv
  rfl

/-- A slice of n elements, of so many cells each, reads as these cells. -/
structure Rd (w : World) (A : Option Addr) (n c size : Nat) (cs : List Value) : Prop where
  len : cs.length = n * size
  le : n ≤ c
  cap : c ≤ maxLen
  nil : A = none → c = 0
  cell : ∀ j u, cs[j]? = some u → ∃ ad, A = some ad ∧ w.cell? (ad.add j) = some u

theorem Rd.below {w w' : World} {A : Option Addr} {n c size : Nat} {cs : List Value} (h : Rd w A n c size cs) (hb : Below w.heap.size w w') : Rd w' A n c size cs :=
  ⟨h.len, h.le, h.cap, h.nil, fun j u hj => by
    obtain ⟨ad, e, hc⟩ := h.cell j u hj
    exact ⟨ad, e, (hb.cell (World.block_lt_of_cell? w _ hc)).trans hc⟩⟩
theorem Rd.drewN {w : World} {m : Nat} {A : Option Addr} {n c size : Nat} {cs : List Value} (h : Rd w A n c size cs) : Rd (w.drewN m) A n c size cs :=
  ⟨h.len, h.le, h.cap, h.nil, h.cell⟩

/-- As the source of a copy, or of an append. -/
theorem Rd.src {w W : World} {A : Option Addr} {n c size : Nat} {cs : List Value} (h : Rd w A n c size cs) (hb : Below w.heap.size w W) (h0 : 0 < cs.length) :
    ∃ ad, A = some ad ∧ ∀ j v, cs[j]? = some v → W.cell? (ad.add j) = some v := by
  have h' := h.below hb
  obtain ⟨ad, rfl, _⟩ := h'.cell 0 _ (List.getElem?_eq_getElem h0)
  refine ⟨ad, rfl, fun j v hj => ?_⟩
  obtain ⟨ad', e, hc⟩ := h'.cell j v hj
  cases e
  exact hc

/-- Of numbers. -/
abbrev RdI (w : World) (k : IntKind) (A : Option Addr) (c : Nat) (xs : List Int) : Prop := Rd w A xs.length c 1 (nums k xs)
theorem RdI.at_ {w : World} {k : IntKind} {A : Option Addr} {c : Nat} {xs : List Int} (h : RdI w k A c xs) {j : Nat} (hj : j < xs.length) :
    ∃ ad, A = some ad ∧ w.cell? (ad.add j) = some (.int k (xs.getD j 0)) := h.cell j _ (nums_get hj)
/-- All of them, behind one address. -/
theorem RdI.all {w : World} {k : IntKind} {A : Option Addr} {c : Nat} {xs : List Int} (h : RdI w k A c xs) (h0 : 0 < xs.length) :
    ∃ ad, A = some ad ∧ ∀ j, j < xs.length → w.cell? (ad.add j) = some (.int k (xs.getD j 0)) := by
  obtain ⟨ad, rfl, _⟩ := h.at_ h0
  refine ⟨ad, rfl, fun j hj => ?_⟩
  obtain ⟨ad', e, hc⟩ := h.at_ hj
  cases e
  exact hc

/-- A cut of a slice: its address stays, where nothing is left of its room. -/
def cutA (A : Option Addr) (i m : Nat) : Option Addr := if m = 0 then A else A.map (·.add i)
theorem RdI.cut {w : World} {k : IntKind} {A : Option Addr} {c : Nat} {xs : List Int} (h : RdI w k A c xs) (i m c' : Nat) (hi : i + m ≤ xs.length) (hm : m ≤ c') (hc : c' ≤ c) :
    RdI w k (cutA A i c') c' ((xs.drop i).take m) := by
  have e : ((xs.drop i).take m).length = m := by simp; omega
  refine ⟨by simp [nums], by omega, Nat.le_trans hc h.cap, fun hn => ?_, fun j u hj => ?_⟩
  · rcases Nat.eq_zero_or_pos c' with h0 | h0
    · exact h0
    · cases A with
      | none => have := h.nil rfl; omega
      | some ad => simp [cutA, show ¬ c' = 0 by omega] at hn
  have hj' : j < m := by
    have := (List.getElem?_eq_some_iff.1 hj).1
    rw [nums_length, e] at this
    exact this
  rw [nums_get (by omega)] at hj
  injection hj with hj
  subst hj
  obtain ⟨ad, rfl, hcell⟩ := h.at_ (j := i + j) (by omega)
  refine ⟨ad.add i, by simp [cutA, show ¬ c' = 0 by omega], ?_⟩
  rw [Addr.add_add, hcell]
  simp [List.getD_eq_getElem?_getD, hj']

/-- What is owned is read. -/
theorem Rd.own {w : World} {base n size : Nat} {e : TypeId} {v : Value} {cs : List Value} (h : w.ownsRow base e size v n cs) :
    ∃ A c, v = .slice A n c ∧ Rd w A n c size cs := by
  have h1 := h.1
  rcases h.2 with ⟨rfl, rfl⟩ | ⟨g, cap, cur, rfl, _, hh, hn, hm, hs, ht⟩
  · exact ⟨none, 0, rfl, h1, by omega, by decide, fun _ => rfl, fun j u hj => by
      obtain rfl : cs = [] := List.eq_nil_of_length_eq_zero (by simpa using h1)
      simp at hj⟩
  · exact ⟨_, cap, rfl, h1, hn, hm, fun h => by simp at h, fun j u hj => ⟨_, rfl, h.cells (g := g) rfl j u hj⟩⟩

theorem own_below {w w1 : World} {base n size : Nat} {e : TypeId} {v : Value} {cs : List Value} (h : w.ownsRow base e size v n cs) (hb : Below w.heap.size w w1) : w1.ownsRow base e size v n cs :=
  h.kept ⟨hb.os, hb.tape, hb.output, hb.size, fun k hk _ => hb.block k hk⟩ (row := none) (by cases v.ownBlock <;> simp)

theorem own_form {w : World} {base n size : Nat} {e : TypeId} {v : Value} {cs : List Value} (h : w.ownsRow base e size v n cs) (h0 : 0 < n) :
    ∃ g cap, v = .slice (some ⟨g, 0, none⟩) n cap ∧ base ≤ g ∧ g < w.heap.size ∧ n ≤ cap ∧ cap ≤ maxLen := by
  rcases h.2 with ⟨_, h1⟩ | ⟨g, cap, cur, rfl, hg, hh, h1, h2, _⟩
  · omega
  · exact ⟨g, cap, rfl, hg, (Array.getElem?_eq_some_iff.1 hh).1, h1, h2⟩
theorem own_mono {w : World} {base base' n size : Nat} {e : TypeId} {v : Value} {cs : List Value} (h : w.ownsRow base e size v n cs) (hb : base' ≤ base) : w.ownsRow base' e size v n cs := by
  obtain ⟨h1, h2⟩ := h
  refine ⟨h1, ?_⟩
  rcases h2 with h2 | ⟨g, cap, cur, hv, hg, r⟩
  · exact .inl h2
  · exact .inr ⟨g, cap, cur, hv, by omega, r⟩
/-- Two steps: the second one leaves what was there when it began. -/
theorem below_two {w w1 w2 : World} (h : Below w.heap.size w w1) (k : Below w1.heap.size w1 w2) : Below w.heap.size w w2 := h.trans (k.mono h.size)

theorem rd_block {w : World} {g : Nat} {cs : List Value} {arr : Array Value} {t : TypeId} {fr : Nat × Nat} {n c size : Nat} (hh : w.heap[g]? = some (.cells arr t fr)) (h : arr.toList = cs) (hn : cs.length = n * size) (hc : n ≤ c) (hm : c ≤ maxLen) :
    Rd w (some ⟨g, 0, none⟩) n c size cs :=
  ⟨hn, hc, hm, fun h => by simp at h, fun j u hj => ⟨_, rfl, by
    subst h
    rw [Addr.add_lit]
    simp only [World.cell?, hh, Nat.zero_add]
    simpa using hj⟩⟩
theorem rd_alloc (w : World) (cs : List Value) (arr : Array Value) (t : TypeId) (fr : Nat × Nat) (n c size : Nat) (h : arr.toList = cs) (hn : cs.length = n * size) (hc : n ≤ c) (hm : c ≤ maxLen) :
    Rd (w.alloc (.cells arr t fr)) (some ⟨w.heap.size, 0, none⟩) n c size cs := rd_block (heap_alloc_new _ _) h hn hc hm

/-- What a given slice of numbers reads as (the row's own words). -/
theorem RdI.given {w : World} {k : IntKind} {a : Option Addr} {n c : Nat} {zs : List Int}
    (h : (a = none ∧ n = 0 ∧ c = 0 ∧ zs = []) ∨ ∃ x, a = some x ∧ n ≤ c ∧ c ≤ maxLen ∧ zs.length = c ∧ (∀ i, i < zs.length → w.cell? (x.add i) = some (.int k (zs.getD i 0))) ∧ ∀ y ∈ zs, (Lit.int k y).wf = true) :
    ∃ xs, n = xs.length ∧ RdI w k a c xs ∧ ∀ y ∈ xs, (Lit.int k y).wf = true := by
  rcases h with ⟨rfl, rfl, rfl, rfl⟩ | ⟨x, rfl, h1, h2, h3, h4, h5⟩
  · exact ⟨[], rfl, ⟨rfl, by simp, by decide, fun _ => rfl, fun j u hj => by simp [nums] at hj⟩, by simp⟩
  · refine ⟨zs.take n, by simp; omega, ⟨by simp [nums], by simp; omega, h2, fun h => by simp at h, fun j u hj => ⟨x, rfl, ?_⟩⟩, fun y hy => h5 y (List.mem_of_mem_take hy)⟩
    have hj' : j < (zs.take n).length := by
      have := (List.getElem?_eq_some_iff.1 hj).1
      rwa [nums_length] at this
    rw [nums_get hj'] at hj
    injection hj with hj
    subst hj
    rw [List.length_take] at hj'
    rw [h4 j (by omega)]
    simp [List.getD_eq_getElem?_getD, show j < n by omega]

/-- Numbers of bytes as a text. -/
def strOf (xs : List Int) : ByteArray := strOfNums xs

theorem conv_rd {P : Program} {w : World} {src dst e : TypeId} {A : Option Addr} {c : Nat} {xs : List Int} (hs : P.underlying src = some (.slice e)) (he : P.underlying e = some (.int .u8)) (hd : P.underlying dst = some .string)
    (h : RdI w .u8 A c xs) : (convert src dst (.slice A xs.length c)).run P w = .ok (.string (strOf xs)) w := by
  have some_ (ad : Addr) (hcell : ∀ i, i < xs.length → w.cell? (ad.add i) = some (.int .u8 (xs.getD i 0))) : (convert src dst (.slice (some ad) xs.length c)).run P w = .ok (.string (strOf xs)) w := by
    have hl : (loadCells ad xs.length).run P w = .ok (xs.map (Value.int .u8)).toArray w := by
      have := run_loadCells_list (P := P) w ad (xs.map (Value.int .u8)) (fun j v hj => by
        have hjl : j < xs.length := by
          rcases Nat.lt_or_ge j xs.length with h | h
          · exact h
          · simp [List.getElem?_eq_none (show (xs.map (Value.int .u8)).length ≤ j by simpa using h)] at hj
        rw [hcell j (by omega)]
        simp [List.getElem?_eq_getElem hjl] at hj
        subst hj
        simp [List.getD, List.getElem?_eq_getElem hjl])
      simpa using this
    rw [run_convert_bytes_string w src dst e _ xs.length c hs he hd, run_bytesToString w _ xs.length c xs hl, foldl_push_bytes]
    simp [strOf, strOfNums, ByteArray.empty, ByteArray.emptyWithCapacity]
    rfl
  rcases Nat.eq_zero_or_pos xs.length with h0 | h0
  · obtain rfl : xs = [] := List.eq_nil_of_length_eq_zero h0
    cases A with
    | none => exact run_convert_bytes_nil w src e hs he 0 c dst hd
    | some ad => exact some_ ad (fun i hi => absurd hi (by simp))
  · obtain ⟨ad, rfl, hc⟩ := h.all h0
    exact some_ ad hc

/-! ### make -/
theorem madeCells_nums (k : IntKind) (m : Nat) : madeCells #[.int k 0] m = (nums k (List.replicate m 0)).toArray := by
  apply Array.ext'
  simp [madeCells, nums, List.map_const', Nat.mod_one]
theorem make_nums {P : Program} (t e : TypeId) (k : IntKind) (bytes : Nat) (ht : P.underlying t = some (.slice e)) (hinfo : (P.info? e).map (fun i => (i.zero, i.size, i.bytes)) = some (some (.int k 0), 1, bytes))
    (m : Nat) (hb : bytes * m ≤ 281474976710656) (h63 : m ≤ 9223372036854775807) :
    ∀ W : World, (Instr.makeSlice t (.int .i64 (m : Int)) (.int .i64 (m : Int))).run P W = .ok (.slice (some ⟨W.heap.size, 0, none⟩) m m) (W.alloc (.cells (nums k (List.replicate m 0)).toArray e (0, 0))) := by
  intro W
  rw [← madeCells_nums]
  exact run_make_row' t e (.int k 0) bytes ht hinfo rfl .i64 .i64 m hb h63 W

/-- A block that is known whole is owned. -/
theorem own_block {w : World} {base g : Nat} {e : TypeId} {cs : List Value} (hh : w.heap[g]? = some (.cells cs.toArray e (0, 0))) (hg : base ≤ g) (hl : cs.length ≤ maxLen) :
    w.ownsRow base e 1 (.slice (some ⟨g, 0, none⟩) cs.length cs.length) cs.length cs :=
  ⟨by simp, .inr ⟨g, cs.length, cs.toArray, rfl, hg, hh, Nat.le_refl _, hl, by simp, by simp⟩⟩

theorem nums_splice (k : IntKind) (xs ys : List Int) (i : Nat) : splice (nums k xs) i (nums k ys) = nums k (splice xs i ys) := by simp [splice, nums]


/-- A slice that is nil, or has nothing. -/
theorem rd_nil (w : World) (size : Nat) : Rd w none 0 0 size [] := ⟨by simp, Nat.le_refl _, by decide, fun _ => rfl, fun j u hj => by simp at hj⟩

/-- The bounds of whole numbers that are given. -/
theorem wf_i64 {n : Int} (h : (Lit.int .i64 n).wf = true) : -9223372036854775808 ≤ n ∧ n ≤ 9223372036854775807 := by
  have e1 : IntKind.i64.min = -9223372036854775808 := by decide
  have e2 : IntKind.i64.max = 9223372036854775807 := by decide
  simp [Lit.wf] at h
  omega
theorem wf_u8 {n : Int} (h : (Lit.int .u8 n).wf = true) : 0 ≤ n ∧ n < 256 := by
  have e1 : IntKind.u8.min = 0 := by decide
  have e2 : IntKind.u8.max = 255 := by decide
  simp [Lit.wf] at h
  omega

/-! ### append to a row of the call's own -/
theorem wp_app {P : Program} {ops : Array Oper} {rest : List Oper} {o : Oper} {a : Act} {Q : Exit → Act → World → Prop} {w0 w : World} (hgd : o.guard = none) (s x : Operand) (t e : TypeId) (z : Value) (size bytes : Nat)
    (ho : o.op = .call { callee := .builtin .append, args := #[s, x], argTypes := #[t, t] }) (ht : P.underlying t = some (.slice e))
    (hinfo : (P.info? e).map (fun i => (i.zero, i.size, i.bytes)) = some (some z, size, bytes)) (hzs : z.cells.size = size) (hsz : 0 < size) (hb0 : 0 < bytes)
    (B : Nat) (v : Value) (n : Nat) (xs : List Value) (hs : a.eval s = v) (hown : w.ownsRow B e size v n xs)
    (A : Option Addr) (m c : Nat) (news : List Value) (hx : a.eval x = .slice A m c) (hrd : Rd w A m c size news) (h1 : ∀ u ∈ news, u.oneCell' = true)
    (hbytes : (n + m) * bytes ≤ 140737488355328) (hB : B ≤ w.heap.size) (hbel : Below B w0 w)
    (h : ∀ v' w', w'.ownsRow B e size v' (n + m) (xs ++ news) → Below B w0 w' → w.grownBy w' v.ownBlock → wpList P ops Q rest (a.put o.dst v') w') : wpList P ops Q (o :: rest) a w := by
  obtain ⟨i0, hi, hzz⟩ := Option.map_eq_some_iff.1 hinfo
  simp only [Prod.mk.injEq] at hzz
  obtain ⟨hz0, hz1, hz2⟩ := hzz
  have hnm : n + m ≤ 140737488355328 := Nat.le_trans (Nat.le_mul_of_pos_right _ hb0) hbytes
  cases A with
  | none =>
    obtain rfl := hrd.nil rfl
    obtain rfl : m = 0 := by have := hrd.le; omega
    obtain rfl : news = [] := List.eq_nil_of_length_eq_zero (by simpa using hrd.len)
    refine wpList_append_own_none hgd s x t ho B e i0 size ht hi v n xs hs hown hx (h v w (by simpa using hown) hbel ⟨rfl, rfl, rfl, Nat.le_refl _, fun _ _ _ => rfl⟩)
  | some ad =>
    refine wpList_append_own (w := w) hgd s x t ho B e i0 z size bytes ht hi hz0 hz1 hz2 hzs hsz v n xs hs hown ad m c news hx hrd.len (fun j u hj => ?_) h1 (by simp only [maxLen]; omega) hbytes hB ?_
    · obtain ⟨ad', e1, hc⟩ := hrd.cell j u hj
      cases e1
      exact hc
    · intro v' w' ho' hg _
      exact h v' w' ho' (hbel.grown hg hB fun k hk => (by
        rcases hown.2 with ⟨rfl, _⟩ | ⟨g, cap, cur, rfl, hb, _⟩
        · simp [Value.ownBlock] at hk
        · have : g = k := by simpa [Value.ownBlock] using hk
          omega)) hg

theorem splice_snoc {α : Type} (l ys : List α) (i : Nat) (y : α) (h : i + ys.length < l.length) : splice l i (ys ++ [y]) = (splice l i ys).set (i + ys.length) y := by
  simp only [splice, List.append_assoc, List.length_append, List.length_singleton]
  rw [List.set_append_right _ _ (by simp; omega)]
  congr 1
  rw [List.set_append_right _ _ (by simp; omega)]
  congr 1
  have e : i + ys.length - (l.take i).length - ys.length = 0 := by simp; omega
  rw [e]
  have d : l.drop (i + ys.length) = l[i + ys.length] :: l.drop (i + ys.length + 1) := List.drop_eq_getElem_cons h
  rw [d]
  rfl
theorem splice_nil {α : Type} (l : List α) (i : Nat) : splice l i [] = l := by simp [splice]
theorem nums_set (k : IntKind) (l : List Int) (i : Nat) (x : Int) : (nums k l).set i (.int k x) = nums k (l.set i x) := by simp [nums, List.map_set]

/-- One element appended: it lies in a block of its own, just made. -/
theorem wp_app1 {P : Program} {ops : Array Oper} {rest : List Oper} {o : Oper} {a : Act} {Q : Exit → Act → World → Prop} {w0 w : World} (hgd : o.guard = none) (s x : Operand) (t e : TypeId) (z : Value) (bytes : Nat)
    (ho : o.op = .call { callee := .builtin .append, args := #[s, x], argTypes := #[t, t] }) (ht : P.underlying t = some (.slice e))
    (hinfo : (P.info? e).map (fun i => (i.zero, i.size, i.bytes)) = some (some z, 1, bytes)) (hzs : z.cells.size = 1) (hb0 : 0 < bytes)
    (B : Nat) (v : Value) (n : Nat) (xs : List Value) (y : Value) (hs : a.eval s = v) (hown : w.ownsRow B e 1 v n xs)
    (hx : a.eval x = .slice (some ⟨w.heap.size, 0, none⟩) 1 1) (h1 : y.oneCell' = true)
    (hbytes : (n + 1) * bytes ≤ 140737488355328) (hB : B ≤ w.heap.size) (hbel : Below B w0 w)
    (h : ∀ v' w', w'.ownsRow B e 1 v' (n + 1) (xs ++ [y]) → Below B w0 w' → (w.alloc (.cells #[y] e)).grownBy w' v.ownBlock → wpList P ops Q rest (a.put o.dst v') w') : wpList P ops Q (o :: rest) a (w.alloc (.cells #[y] e)) :=
  wp_app (w0 := w0) hgd s x t e z 1 bytes ho ht hinfo hzs (by decide) hb0 B v n xs hs (hown.alloc _) (some ⟨w.heap.size, 0, none⟩) 1 1 [y] hx (rd_alloc w [y] #[y] e (0, 0) 1 1 1 rfl rfl (by decide) (by decide))
    (fun u hu => by simp at hu; subst hu; exact h1) hbytes (by simp; omega) (hbel.alloc hB _) h

/-- A literal without elements. -/
theorem own_empty {w : World} {B g : Nat} {e : TypeId} {size : Nat} (hh : w.heap[g]? = some (.cells #[] e (0, 0))) (hg : B ≤ g) : w.ownsRow B e size (.slice (some ⟨g, 0, none⟩) 0 0) 0 [] :=
  ⟨by simp, .inr ⟨g, 0, #[], rfl, hg, hh, Nat.le_refl _, by decide, by simp, by simp⟩⟩

end Go.Proofs.YtappfhjknihboaaGreatDoor


/- Plain words on bits: two numbers that have no bit in common. -/
namespace Go.Proofs.YtappfhjknihboaaGreatDoor
open Go.RowKit

theorem u64_join (k : Nat) (hk : k < 8) (x c : Int) (hx0 : 0 ≤ x) (hx : x < 256 ^ k) (hc0 : 0 ≤ c) (hc : c < 256) :
    bits .or .u64 x (IntKind.u64.wrap (IntKind.u64.wrap c * 2 ^ (8 * k))) = x + c * 256 ^ k := by
  have e1 : IntKind.u64.wrap c = c := IntWalk.u64_in _ ⟨by omega, by omega⟩
  rw [e1]
  have h : ∃ P : Nat, (2 : Int) ^ (8 * k) = P ∧ (256 : Int) ^ k = P ∧ P * 256 ≤ 18446744073709551616 ∧ P = 2 ^ (8 * k) := by
    rcases k with _ | _ | _ | _ | _ | _ | _ | _ | k
    all_goals first | omega | exact ⟨_, by rfl, by rfl, by decide, by rfl⟩
  obtain ⟨P, h1, h2, h3, h4⟩ := h
  rw [h1, h2]
  rw [h2] at hx
  have hP : (0 : Int) ≤ P := Int.natCast_nonneg P
  have hm : 0 ≤ c * P := Int.mul_nonneg hc0 hP
  have hm2 : c * P ≤ 255 * P := Int.mul_le_mul_of_nonneg_right (by omega) hP
  have e2 : IntKind.u64.wrap (c * P) = c * P := IntWalk.u64_in _ ⟨by omega, by omega⟩
  rw [e2, u64_or x (c * P) hx0 (by omega) hm (by omega), Nat.or_comm, nat_join (8 * k)]
  · omega
  · obtain ⟨C, rfl⟩ := Int.eq_ofNat_of_zero_le hc0
    have : ((C : Int) * (P : Int)).toNat = C * P := by
      rw [← Int.natCast_mul]; rfl
    rw [this, h4, Nat.mul_mod_left]
  · rw [← h4]; omega

theorem i64_join (x c : Int) (h0 : 0 ≤ c) (h1 : c < 256) : bits .or .i64 (wrap64 (x * 256)) c = wrap64 (x * 256 + c) := by
  have key : (BitVec.ofInt 64 (wrap64 (x * 256)) ||| BitVec.ofInt 64 c).toNat = (wrap64 (x * 256) % 18446744073709551616).toNat + c.toNat := by
    rw [BitVec.toNat_or, BitVec.toNat_ofInt, BitVec.toNat_ofInt]
    show (wrap64 (x * 256) % 18446744073709551616).toNat ||| (c % 18446744073709551616).toNat = _
    rw [show c % 18446744073709551616 = c by omega, nat_join 8]
    · unfold wrap64; omega
    · omega
  show IntKind.i64.wrap ((BitVec.ofInt 64 (wrap64 (x * 256)) ||| BitVec.ofInt 64 c).toNat : Nat) = _
  rw [key, IntKind.wrap_i64]
  unfold wrap64
  omega
end Go.Proofs.YtappfhjknihboaaGreatDoor


/- Small words for laws: what is read stays so. -/
namespace Go.Proofs.YtappfhjknihboaaGreatDoor
open Go.RowKit

theorem below_drewN (w : World) (n : Nat) : Below w.heap.size w (w.drewN n) := by
  have := (Below.refl w.heap.size w)
  exact ⟨this.os, this.tape, this.output, this.size, fun k hk => this.block k hk⟩
/-- A literal. -/
theorem rd_lit (w : World) (k : IntKind) (xs : List Int) (arr : Array Value) (t : TypeId) (g : Nat) (hg : w.heap.size = g) (h : arr.toList = nums k xs) (hm : xs.length ≤ maxLen) : Rd (w.alloc (.cells arr t)) (some ⟨g, 0, none⟩) xs.length xs.length 1 (nums k xs) := by
  subst hg
  exact rd_alloc w (nums k xs) arr t (0, 0) xs.length xs.length 1 h (by simp [nums]) (Nat.le_refl _) hm
theorem below_lit (w : World) (c : Obj) : Below w.heap.size w (w.alloc c) := (Below.refl _ _).alloc (Nat.le_refl _) _
/-- An operation under a guard that holds: as one without. -/
theorem wp_take {P : Program} {ops : Array Oper} {rest : List Oper} {o : Oper} {a : Act} {Q : Exit → Act → World → Prop} {w : World} (h : Region.wanted o (yielded ops a.tmps) = true) (k : wpList P ops Q ({ o with guard := none } :: rest) a w) : wpList P ops Q (o :: rest) a w := by
  unfold wpList at k ⊢
  rw [if_pos h]
  rw [if_pos (by simp [Region.wanted])] at k
  exact k
end Go.Proofs.YtappfhjknihboaaGreatDoor


/- Plain words on bytes and cells: no program in sight. -/
namespace Go.Proofs.YtappfhjknihboaaGreatDoor
open Go.RowKit

/-- Bytes as a number, the least one first. -/
def le : List Int → Int
  | [] => 0
  | b :: r => b + 256 * le r

def isB (l : List Int) : Prop := ∀ x ∈ l, 0 ≤ x ∧ x < 256

theorem isB_wf {l : List Int} (h : ∀ y ∈ l, (Lit.int .u8 y).wf = true) : isB l := fun y hy => wf_u8 (h y hy)
theorem isB_getD {l : List Int} (h : isB l) (j : Nat) : 0 ≤ l.getD j 0 ∧ l.getD j 0 < 256 := by
  rw [List.getD_eq_getElem?_getD]
  cases e : l[j]? with
  | none => simp
  | some x => exact h x (List.mem_of_getElem? e)

theorem isB_take {l : List Int} (h : isB l) (n : Nat) : isB (l.take n) := fun x hx => h x (List.mem_of_mem_take hx)
theorem isB_drop {l : List Int} (h : isB l) (n : Nat) : isB (l.drop n) := fun x hx => h x (List.mem_of_mem_drop hx)
theorem isB_append {l r : List Int} (h : isB l) (h' : isB r) : isB (l ++ r) := fun x hx => (List.mem_append.1 hx).elim (h x) (h' x)

theorem le_bound : ∀ (l : List Int), isB l → 0 ≤ le l ∧ le l < 256 ^ l.length
  | [], _ => by simp [le]
  | b :: r, h => by
    have ih := le_bound r (fun x hx => h x (List.mem_cons_of_mem _ hx))
    have hb := h b (List.mem_cons_self ..)
    simp only [le, List.length_cons, Int.pow_succ]
    omega

theorem le_append : ∀ (l r : List Int), le (l ++ r) = le l + 256 ^ l.length * le r
  | [], r => by simp [le]
  | b :: l, r => by
    rw [List.cons_append, le, le_append l r, le, List.length_cons, Int.pow_succ, Int.mul_add, Int.mul_comm (256 ^ l.length) 256, Int.mul_assoc]
    omega

theorem take_snoc {l : List Int} {k : Nat} (h : k < l.length) : l.take (k + 1) = l.take k ++ [l.getD k 0] := by
  rw [List.take_succ_eq_append_getElem h]
  simp [List.getD_eq_getElem?_getD, List.getElem?_eq_getElem h]

theorem le_snoc {l : List Int} {k : Nat} (h : k < l.length) : le (l.take (k + 1)) = le (l.take k) + l.getD k 0 * 256 ^ k := by
  rw [take_snoc h, le_append]
  simp only [le, List.length_take, Int.mul_zero, Int.add_zero]
  rw [Nat.min_eq_left (by omega), Int.mul_comm]

theorem drop_cons {l : List Int} {k : Nat} (h : k < l.length) : l.drop k = l.getD k 0 :: l.drop (k + 1) := by
  rw [List.drop_eq_getElem_cons h]
  simp [List.getD_eq_getElem?_getD, List.getElem?_eq_getElem h]

theorem pow256_2 (k : Nat) : (256 : Int) ^ k = 2 ^ (8 * k) := by
  rw [Int.pow_mul]; rfl

/-- A cell among bytes. -/
def cellAt (l : List Int) (i : Nat) : Int := le ((l.drop i).take 8)

theorem cellAt_bound {l : List Int} (h : isB l) (i : Nat) : 0 ≤ cellAt l i ∧ cellAt l i < 18446744073709551616 := by
  have hb := le_bound _ (isB_take (isB_drop h i) 8)
  refine ⟨hb.1, ?_⟩
  have hl : ((l.drop i).take 8).length ≤ 8 := by simp; omega
  have hp : ((256 ^ ((l.drop i).take 8).length : Nat) : Int) ≤ ((18446744073709551616 : Nat) : Int) := Int.ofNat_le.2 (Nat.pow_le_pow_right (n := 256) (i := ((l.drop i).take 8).length) (j := 8) (by decide) hl)
  rw [Int.natCast_pow] at hp
  unfold cellAt
  exact Int.lt_of_lt_of_le hb.2 hp

/-- The bytes of a cell. -/
def bytesOf (v : Int) : Nat → List Int
  | 0 => []
  | n + 1 => v % 256 :: bytesOf (v / 256) n

theorem bytesOf_length : ∀ (n : Nat) (v : Int), (bytesOf v n).length = n
  | 0, _ => rfl
  | n + 1, v => by simp [bytesOf, bytesOf_length n]
theorem bytesOf_isB : ∀ (n : Nat) (v : Int), isB (bytesOf v n)
  | 0, _ => by simp [isB, bytesOf]
  | n + 1, v => by
    intro x hx
    rcases List.mem_cons.1 hx with rfl | hx
    · omega
    · exact bytesOf_isB n _ x hx
theorem bytesOf_getD : ∀ (n : Nat) (v : Int) (k : Nat), k < n → (bytesOf v n).getD k 0 = v / 256 ^ k % 256
  | 0, _, _, h => absurd h (by omega)
  | n + 1, v, 0, _ => by simp [bytesOf]
  | n + 1, v, k + 1, h => by
    have := bytesOf_getD n (v / 256) k (by omega)
    rw [bytesOf, List.getD_cons_succ, this, Int.pow_succ, Int.mul_comm, Int.ediv_ediv_of_nonneg (by decide)]
theorem le_bytesOf : ∀ (n : Nat) (v : Int), le (bytesOf v n) = v % 256 ^ n
  | 0, v => by simp [bytesOf, le]
  | n + 1, v => by
    have hp : (0 : Int) < 256 ^ n := Int.pow_pos (by decide)
    rw [bytesOf, le, le_bytesOf n, Int.pow_succ]
    generalize (256 : Int) ^ n = P at hp ⊢
    have d := Int.emod_add_mul_ediv (v / 256) P
    have s0 := Int.emod_nonneg (v / 256) (show P ≠ 0 by omega)
    have s1 := Int.emod_lt_of_pos (v / 256) hp
    have e : v = (v % 256 + 256 * (v / 256 % P)) + (P * 256) * (v / 256 / P) := by
      rw [Int.mul_assoc, Int.mul_left_comm]
      omega
    have g : v % (P * 256) = ((v % 256 + 256 * (v / 256 % P)) + (P * 256) * (v / 256 / P)) % (P * 256) := congrArg (· % (P * 256)) e
    rw [g, Int.add_mul_emod_self_left (v % 256 + 256 * (v / 256 % P)) (P * 256) (v / 256 / P), Int.emod_eq_of_lt (a := v % 256 + 256 * (v / 256 % P)) (b := P * 256) (by omega) (by omega)]

theorem bytesOf_le : ∀ (l : List Int) (n : Nat), isB l → l.length = n → bytesOf (le l) n = l
  | [], 0, _, _ => rfl
  | [], n + 1, _, h => absurd h (by simp)
  | b :: r, 0, _, h => absurd h (by simp)
  | b :: r, n + 1, h, hl => by
    have hb := h b (List.mem_cons_self ..)
    have ih := bytesOf_le r n (fun x hx => h x (List.mem_cons_of_mem _ hx)) (by simpa using hl)
    rw [bytesOf, le, show (b + 256 * le r) % 256 = b by omega, show (b + 256 * le r) / 256 = le r by omega, ih]


theorem bytesOf_snoc : ∀ (n : Nat) (v : Int), bytesOf v (n + 1) = bytesOf v n ++ [v / 256 ^ n % 256]
  | 0, v => by simp [bytesOf]
  | n + 1, v => by
    have := bytesOf_snoc n (v / 256)
    rw [bytesOf, this, bytesOf, Int.pow_succ, Int.mul_comm, ← Int.ediv_ediv_of_nonneg (by decide)]
    rfl
theorem u64_shift (v : Int) (k : Nat) (hk : k < 8) : v % 18446744073709551616 / 256 ^ k % 256 = v / 256 ^ k % 256 := by
  rcases k with _ | _ | _ | _ | _ | _ | _ | _ | k
  all_goals first | omega | (simp only [Nat.reduceAdd, Int.reducePow]; omega)
end Go.Proofs.YtappfhjknihboaaGreatDoor


/- Plain words on a source: no program in sight. -/
namespace Go.Proofs.YtappfhjknihboaaGreatDoor
open Go.RowKit

/-- A text's byte. -/
def bt (s : ByteArray) (k : Nat) : Int := if h : k < s.size then ((s[k]'h).toNat : Int) else 0
theorem get_bt (s : ByteArray) : ∀ (n : Nat) (h : n < s.size), ((s[n]'h).toNat : Int) = bt s n := fun n h => by unfold bt; rw [dif_pos h]
theorem bt_range (s : ByteArray) (k : Nat) : 0 ≤ bt s k ∧ bt s k < 256 := by
  unfold bt
  split
  · rename_i h
    have := (s[k]'h).toNat_lt
    omega
  · omega

/-- The first place from i on at which p no longer holds, or the end. -/
def skip (p : Int → Bool) (s : ByteArray) (i : Nat) : Nat := if i < s.size then (if p (bt s i) then skip p s (i + 1) else i) else i
  termination_by s.size - i
theorem skip_end {p : Int → Bool} {s : ByteArray} {i : Nat} (h : ¬ i < s.size) : skip p s i = i := by rw [skip, if_neg h]
theorem skip_yes {p : Int → Bool} {s : ByteArray} {i : Nat} (h : i < s.size) (hp : p (bt s i) = true) : skip p s i = skip p s (i + 1) := by rw [skip, if_pos h, if_pos hp]
theorem skip_no {p : Int → Bool} {s : ByteArray} {i : Nat} (h : i < s.size) (hp : p (bt s i) = false) : skip p s i = i := by rw [skip, if_pos h, if_neg (by simp [hp])]
theorem skip_spec (p : Int → Bool) (s : ByteArray) : ∀ (d i : Nat), s.size - i = d → i ≤ s.size →
    i ≤ skip p s i ∧ skip p s i ≤ s.size ∧ (∀ k, i ≤ k → k < skip p s i → p (bt s k) = true) ∧ (skip p s i < s.size → p (bt s (skip p s i)) = false)
  | 0, i, hd, hi => by
    rw [skip_end (by omega)]
    exact ⟨Nat.le_refl _, hi, fun k h1 h2 => by omega, fun h => by omega⟩
  | d + 1, i, hd, hi => by
    have hlt : i < s.size := by omega
    cases hp : p (bt s i) with
    | false => rw [skip_no hlt hp]; exact ⟨Nat.le_refl _, hi, fun k h1 h2 => by omega, fun _ => hp⟩
    | true =>
      rw [skip_yes hlt hp]
      obtain ⟨h1, h2, h3, h4⟩ := skip_spec p s d (i + 1) (by omega) (by omega)
      refine ⟨by omega, h2, fun k hk1 hk2 => ?_, h4⟩
      rcases Nat.eq_or_lt_of_le hk1 with rfl | hk
      · exact hp
      · exact h3 k (by omega) hk2
theorem skip_ge {p : Int → Bool} {s : ByteArray} {i : Nat} (h : i ≤ s.size) : i ≤ skip p s i := (skip_spec p s _ i rfl h).1
theorem skip_le {p : Int → Bool} {s : ByteArray} {i : Nat} (h : i ≤ s.size) : skip p s i ≤ s.size := (skip_spec p s _ i rfl h).2.1
theorem skip_in {p : Int → Bool} {s : ByteArray} {i : Nat} (h : i ≤ s.size) : ∀ k, i ≤ k → k < skip p s i → p (bt s k) = true := (skip_spec p s _ i rfl h).2.2.1
theorem skip_at {p : Int → Bool} {s : ByteArray} {i : Nat} (h : i ≤ s.size) : skip p s i < s.size → p (bt s (skip p s i)) = false := (skip_spec p s _ i rfl h).2.2.2

/-- A place, as it must be. -/
def bound (s : ByteArray) (i : Int) : Nat := min i.toNat s.size
theorem bound_le (s : ByteArray) (i : Int) : bound s i ≤ s.size := Nat.min_le_right _ _

def isBlank (c : Int) : Bool := decide (c ≤ 32)
def notBlank (c : Int) : Bool := decide (32 < c)
def isNot (c : Int) (x : Int) : Bool := !(x == c)

def tokA (s : ByteArray) (i : Int) : Nat := skip isBlank s (bound s i)
def tokB (s : ByteArray) (i : Int) : Nat := skip notBlank s (tokA s i)
theorem tokA_le (s : ByteArray) (i : Int) : tokA s i ≤ s.size := skip_le (bound_le _ _)
theorem tokAB (s : ByteArray) (i : Int) : tokA s i ≤ tokB s i := skip_ge (tokA_le _ _)
theorem tokB_le (s : ByteArray) (i : Int) : tokB s i ≤ s.size := skip_le (tokA_le _ _)

/-- Where what stands ahead of a byte begins. -/
def untilA (s : ByteArray) (i : Int) : Nat := if bound s i < s.size ∧ bt s (bound s i) ≤ 32 then bound s i + 1 else bound s i
theorem untilA_le (s : ByteArray) (i : Int) : untilA s i ≤ s.size := by
  have := bound_le s i
  unfold untilA
  split <;> omega
def untilB (s : ByteArray) (i c : Int) : Nat := skip (isNot c) s (untilA s i)
/-- Behind a byte, or the end. -/
def behind (s : ByteArray) (k : Nat) : Nat := if k < s.size then k + 1 else s.size
def lineR (s : ByteArray) (i : Int) : Nat := behind s (skip (isNot 10) s (bound s i))

/-- A place's line, and where that begins. -/
def lineOf (s : ByteArray) : Nat → Nat
  | 0 => 1
  | n + 1 => if bt s n = 10 then lineOf s n + 1 else lineOf s n
def beginOf (s : ByteArray) : Nat → Nat
  | 0 => 0
  | n + 1 => if bt s n = 10 then n + 1 else beginOf s n
theorem beginOf_le (s : ByteArray) : ∀ n, beginOf s n ≤ n
  | 0 => Nat.le_refl _
  | n + 1 => by
    have := beginOf_le s n
    unfold beginOf
    split <;> omega
theorem lineOf_le (s : ByteArray) : ∀ n, 1 ≤ lineOf s n ∧ lineOf s n ≤ n + 1
  | 0 => ⟨Nat.le_refl _, Nat.le_refl _⟩
  | n + 1 => by
    have := lineOf_le s n
    unfold lineOf
    split <;> omega

/-- strings.IndexByte, in these words. -/
theorem indexByte_skip (s : ByteArray) (c : UInt8) : ∀ (d i : Nat), s.size - i = d → i ≤ s.size →
    Lib.indexByte (s.data.toList.drop i) c = if skip (isNot c.toNat) s i < s.size then ((skip (isNot c.toNat) s i - i : Nat) : Int) else -1
  | 0, i, hd, hi => by
    rw [skip_end (by omega), if_neg (by omega), List.drop_eq_nil_of_le (by rw [Array.length_toList]; exact (by omega : s.size ≤ i))]
    rfl
  | d + 1, i, hd, hi => by
    have hlt : i < s.size := by omega
    have hd' : s.data.toList.drop i = s[i]'hlt :: s.data.toList.drop (i + 1) := by
      rw [List.drop_eq_getElem_cons (by rw [Array.length_toList]; exact hlt)]
      rfl
    have hb : bt s i = ((s[i]'hlt).toNat : Int) := (get_bt s i hlt).symm
    rw [hd', Lib.indexByte, indexByte_skip s c d (i + 1) (by omega) (by omega)]
    by_cases he : s[i]'hlt = c
    · have hp : isNot c.toNat (bt s i) = false := by rw [hb, he]; simp [isNot]
      rw [skip_no hlt hp, if_pos (by simp [he]), if_pos hlt]
      simp
    · have hp : isNot c.toNat (bt s i) = true := by
        rw [hb]
        simp only [isNot, Bool.not_eq_true', beq_eq_false_iff_ne, ne_eq]
        intro hc
        exact he (UInt8.toNat_inj.1 (by omega))
      rw [skip_yes hlt hp, if_neg (by simp [he])]
      have hge := skip_ge (p := isNot c.toNat) (s := s) (i := i + 1) (by omega)
      by_cases hs : skip (isNot c.toNat) s (i + 1) < s.size
      · rw [if_pos hs, if_pos hs, if_neg (by simp <;> omega)]
        omega
      · rw [if_neg hs, if_neg hs]
        simp

/-- A letter that takes more than one byte has no byte below 128 behind its first one. -/
theorem decode_tail (s : ByteArray) (i k : Nat) (h1 : i < k) (h2 : k < i + (Utf8.decode s i).2) : k < s.size ∧ 128 ≤ bt s k := by
  have key : ∀ m, (decide (i + m < s.size) && (s.get! (i + m)).toNat / 64 == 2) = true → i + m < s.size ∧ 128 ≤ bt s (i + m) := by
    intro m hm
    simp only [Bool.and_eq_true, decide_eq_true_eq, beq_iff_eq] at hm
    obtain ⟨h, hq⟩ := hm
    refine ⟨h, ?_⟩
    have e : s.get! (i + m) = s[i + m]'h := by
      simp [ByteArray.get!, getElem!_pos, h]
      rfl
    rw [← get_bt s _ h, ← e]
    omega
  obtain ⟨m, rfl⟩ : ∃ m, k = i + m := ⟨k - i, by omega⟩
  simp only [Utf8.decode] at h2
  split at h2
  · simp at h2; omega
  · split at h2
    · rename_i hc
      simp only [Bool.and_eq_true] at hc
      split at h2
      · obtain rfl : m = 1 := by simp at h2; omega
        exact key 1 (by simpa using hc.2)
      · simp at h2; omega
    · split at h2
      · rename_i hc
        simp only [Bool.and_eq_true] at hc
        split at h2
        · have : m = 1 ∨ m = 2 := by simp at h2; omega
          rcases this with rfl | rfl
          · exact key 1 (by simpa using hc.1.2)
          · exact key 2 (by simpa using hc.2)
        · simp at h2; omega
      · split at h2
        · rename_i hc
          simp only [Bool.and_eq_true] at hc
          split at h2
          · have : m = 1 ∨ m = 2 ∨ m = 3 := by simp at h2; omega
            rcases this with rfl | rfl | rfl
            · exact key 1 (by simpa using hc.1.1.2)
            · exact key 2 (by simpa using hc.1.2)
            · exact key 3 (by simpa using hc.2)
          · simp at h2; omega
        · simp at h2; omega

theorem ext_list (s : ByteArray) (a b : Nat) : (s.extract a b).data.toList = (s.data.toList.drop a).take (b - a) := by
  rw [ByteArray.data_extract, Array.toList_extract, List.extract_eq_take_drop]
theorem bytes_ext {s t : ByteArray} (h : s.data.toList = t.data.toList) : s = t := by
  cases s; cases t
  congr
  exact Array.toList_inj.1 h
theorem ext_size (s : ByteArray) (a b : Nat) (h : b ≤ s.size) : (s.extract a b).size = b - a := by
  rw [ByteArray.size_extract, Nat.min_eq_left h]
theorem ext_ext (s : ByteArray) (a b c d : Nat) (h1 : d ≤ b - a) : (s.extract a b).extract c d = s.extract (a + c) (a + d) := by
  apply bytes_ext
  rw [ext_list, ext_list, ext_list, List.drop_take, List.drop_drop, List.take_take]
  congr 1
  omega
theorem bt_list (s : ByteArray) (k : Nat) : bt s k = (((s.data.toList[k]?).getD 0).toNat : Int) := by
  unfold bt
  by_cases h : k < s.size
  · rw [dif_pos h, List.getElem?_eq_getElem (by rw [Array.length_toList]; exact h)]
    rfl
  · rw [dif_neg h, List.getElem?_eq_none (by rw [Array.length_toList]; exact (by omega : s.size ≤ k))]
    rfl
theorem bt_ext (s : ByteArray) (a b k : Nat) (h : a + k < b) : bt (s.extract a b) k = bt s (a + k) := by
  rw [bt_list, bt_list, ext_list, List.getElem?_take, if_pos (by omega), List.getElem?_drop]
end Go.Proofs.YtappfhjknihboaaGreatDoor


/- Plain words on names: no program in sight. -/
namespace Go.Proofs.YtappfhjknihboaaGreatDoor
open Go.RowKit

/-- A letter as a capital one. -/
def capB (c : UInt8) : UInt8 := if 97 ≤ c.toNat ∧ c.toNat ≤ 122 then UInt8.ofNat (c.toNat - 32) else c
def capI (c : Int) : Int := if 97 ≤ c ∧ c ≤ 122 then c - 32 else c
theorem capI_eq (c : UInt8) : capI (c.toNat : Int) = ((capB c).toNat : Int) := by
  unfold capI capB
  have := c.toNat_lt
  by_cases h : 97 ≤ c.toNat ∧ c.toNat ≤ 122
  · rw [if_pos h, if_pos (by omega)]
    simp
    omega
  · rw [if_neg h, if_neg (by omega)]
theorem capB_twice (c : UInt8) : capB (capB c) = capB c := by
  unfold capB
  by_cases h : 97 ≤ c.toNat ∧ c.toNat ≤ 122
  · rw [if_pos h, if_neg]
    simp
    omega
  · rw [if_neg h, if_neg h]
/-- A name in capital letters. -/
def foldL (s : ByteArray) : List UInt8 := s.data.toList.map capB
def foldB (s : ByteArray) : ByteArray := ⟨(foldL s).toArray⟩
theorem foldL_len (s : ByteArray) : (foldL s).length = s.size := by simp [foldL]
theorem foldB_size (s : ByteArray) : (foldB s).size = s.size := by
  show (foldL s).toArray.size = _
  rw [List.size_toArray, foldL_len]
theorem foldB_twice (s : ByteArray) : foldB (foldB s) = foldB s := by
  unfold foldB
  congr 2
  simp [foldL, Function.comp_def, capB_twice]
theorem foldL_snoc (s : ByteArray) (k : Nat) (h : k < s.size) : (foldL s).take (k + 1) = (foldL s).take k ++ [capB (s[k]'h)] := by
  rw [List.take_succ_eq_append_getElem (by rw [foldL_len]; exact h)]
  simp [foldL]
  rfl
end Go.Proofs.YtappfhjknihboaaGreatDoor


/- strings.Builder at this program: copyCheck and WriteByte walked (the shelf's own do not lie at this dump), String by the shelf's contract. -/
namespace Go.Proofs.YtappfhjknihboaaGreatDoor
open Go.Shelf Go.RowKit

def lays169_ren : Go.Shelf.Ren := ⟨fun | 169 => 98 | n => n, fun | 70 => 109 | 9 => 9 | 0 => 0 | 72 => 111 | 37 => 22 | 127 => 130 | 3 => 3 | 5 => 5 | n => n, fun | n => n⟩
theorem lays169 : Go.Proofs.Lays.n169 Tryz.prog lays169_ren := {
  mixed := by kernel_rfl
  f169 := Tryz.func98.trans (congrArg some (by kernel_rfl))
  t0 := Tryz.underlying0
  a0 := Tryz.isAgg0
  z0 := Tryz.sizeOf0
  v0 := Tryz.zeroValue0
  t3 := Tryz.underlying3
  a3 := Tryz.isAgg3
  z3 := Tryz.sizeOf3
  v3 := Tryz.zeroValue3
  t9 := Tryz.underlying9
  a9 := Tryz.isAgg9
  z9 := Tryz.sizeOf9
  v9 := Tryz.zeroValue9
  t37 := Tryz.underlying22
  a37 := Tryz.isAgg22
  z37 := Tryz.sizeOf22
  v37 := Tryz.zeroValue22
  t70 := Tryz.underlying109
  a70 := Tryz.isAgg109
  z70 := Tryz.sizeOf109
  v70 := Tryz.zeroValue109
  t72 := Tryz.underlying111
  a72 := Tryz.isAgg111
  z72 := Tryz.sizeOf111
  v72 := Tryz.zeroValue111
  t127 := Tryz.underlying130
  a127 := Tryz.isAgg130
  z127 := Tryz.sizeOf130
  v127 := Tryz.zeroValue130 }
theorem builder_Extra : Builder.Extra Tryz.prog lays169_ren := {
  sizeBuilder := by kernel_rfl
  liesBuilder := by kernel_rfl
  t5 := Tryz.underlying5
  a5 := Tryz.isAgg5
  z5 := Tryz.sizeOf5
  v5 := Tryz.zeroValue5
  infoByte := by kernel_rfl
  cellsByte := by kernel_rfl
  sizeByte := by kernel_rfl
  neB5 := by decide }
abbrev IsB (b : Nat) (bs : List Value) (w : World) : Prop := Lib.IsBuilder 111 5 b b bs w
theorem Builder_String (b : Nat) (l : List UInt8) (w : World) (h : IsB b (Lib.byteCells l) w) (hBw : b ≤ w.heap.size) :
    Calls Tryz.prog 98 #[.pointer (some ⟨b, 0, none⟩)] w fun e w' => e = .returned (.string ⟨l.toArray⟩) ∧ Below b w w' := Any.Builder_String_any lays169 builder_Extra b b l w h hBw

set_option maxHeartbeats 1000000 in
set_option maxRecDepth 100000 in
theorem copyCheck_used (b : Nat) (w : World) (h0 : w.cell? ⟨b, 0, none⟩ = some (.pointer (some ⟨b, 0, none⟩))) :
    Calls Tryz.prog 122 #[.pointer (some ⟨b, 0, none⟩)] w fun e w' => e = .returned (.tuple #[]) ∧ w' = w := by
  obtain ⟨j, hj, _⟩ := Option.map_eq_some_iff.1 builder_Extra.sizeBuilder
  go_enter Tryz.func122, Tryz.ntmps122
  go_wp2
  rw [Lib.run_neq_ptr_same w _ Tryz.underlying109 hj]
  go_wp2
  go_end0
  exact ⟨rfl, rfl⟩

set_option maxHeartbeats 1000000 in
set_option maxRecDepth 100000 in
theorem copyCheck_fresh (b : Nat) (w : World) (h0 : w.cell? ⟨b, 0, none⟩ = some (.pointer none)) (hsh : w.shape? b = some (111, 2)) (hfz : w.frozen? ⟨b, 0, none⟩ = false) :
    Calls Tryz.prog 122 #[.pointer (some ⟨b, 0, none⟩)] w fun e w' => e = .returned (.tuple #[]) ∧ w' = w.setCell ⟨b, 0, none⟩ (.pointer (some ⟨b, 0, none⟩)) := by
  obtain ⟨j, hj, hjs⟩ := Option.map_eq_some_iff.1 builder_Extra.sizeBuilder
  go_enter Tryz.func122, Tryz.ntmps122
  go_wp2
  rw [Lib.run_to_unsafe w ⟨b, 0, none⟩ Tryz.underlying109 Tryz.underlying141 hj (by rw [hjs]; decide) hsh (Nat.zero_lt_succ 1)]
  simp only [Result.andThen]
  rw [Oper.upon_value]
  go_wp2
  rw [run_callFunc_extern Tryz.func140 (by kernel_rfl) (by kernel_rfl) (by kernel_rfl) (e := Extern.AbiNoEscape.same) (by kernel_rfl)]
  rw [Lib.run_noEscape]
  simp only [Result.andThen]
  rw [Oper.upon_value]
  go_wp2
  rw [Lib.run_from_unsafe w ⟨b, 0, none⟩ Tryz.underlying141 Tryz.underlying109 hj hsh builder_Extra.liesBuilder]
  simp only [Result.andThen]
  rw [Oper.upon_value]
  go_wp2
  go_end0
  exact ⟨rfl, rfl⟩

theorem copyCheck_any (b : Nat) (bs : List Value) (w : World) (h : IsB b bs w) :
    Calls Tryz.prog 122 #[.pointer (some ⟨b, 0, none⟩)] w fun e w' => e = .returned (.tuple #[]) ∧ (Lib.BuilderAt 111 5 b b (.pointer (some ⟨b, 0, none⟩)) bs w' ∧ Below b w w') := by
  rcases h with h | h
  · refine (copyCheck_fresh b w h.cell0 h.shape h.frozen0).mono ?_
    rintro e w' ⟨rfl, rfl⟩
    exact ⟨rfl, h.used _, (Below.refl b w).setCell (p := ⟨b, 0, none⟩) h.1 _⟩
  · refine (copyCheck_used b w h.cell0).mono ?_
    rintro e w' ⟨rfl, rfl⟩
    exact ⟨rfl, h, Below.refl b _⟩

set_option maxHeartbeats 2000000 in
set_option maxRecDepth 100000 in
theorem WriteByte (b : Nat) (bs : List Value) (c : Int) (w : World) (h : IsB b bs w) (hlen : bs.length + 1 ≤ 140737488355328) (hBw : b ≤ w.heap.size) :
    Calls Tryz.prog 97 #[.pointer (some ⟨b, 0, none⟩), .int .u8 c] w fun e w' => e = .returned .nilIface ∧ IsB b (bs ++ [.int .u8 c]) w' ∧ Below b w w' := by
  obtain ⟨i0, hi, hz0, hz1, hz2⟩ := info_parts builder_Extra.infoByte
  go_enter Tryz.func97, Tryz.ntmps97
  go_wp2_with (go_at_call 122; refine (copyCheck_any b bs _ h).mono ?_)
  rintro e w1 ⟨rfl, h1, hb1⟩
  obtain ⟨hB, v, hbk, hown, hne⟩ := h1
  have c0 : w1.cell? ⟨b, 0, none⟩ = some (.pointer (some ⟨b, 0, none⟩)) := by rw [Lib.cell_of_heap hbk]; rfl
  have c1 : w1.cell? ⟨b, 1, none⟩ = some v := by rw [Lib.cell_of_heap hbk]; rfl
  go_wp2_with (at_builtin; refine wpList_append_own _ rfl _ _ 22 rfl b 5 i0 (.int .u8 0) 1 1 Tryz.underlying22 hi hz0 hz1 hz2 rfl (by decide) _ _ _ rfl (hown.alloc _) ⟨w1.heap.size, 0, none⟩ 1 1 [.int .u8 c] rfl rfl ?c1 ?c2 ?c3 ?c4 ?c5 ?_)
  case c1 =>
    intro j u hj
    match j, hj with
    | 0, hj => simp at hj; subst hj; simp [Addr.add]
  case c2 => intro u hu; simp at hu; subst hu; rfl
  case c3 => unfold maxLen; omega
  case c4 => omega
  case c5 => have := hb1.size; simp; omega
  intro v' w2 hown' hgrow _
  have hlt : b < w1.heap.size := by
    rcases Nat.lt_or_ge b w1.heap.size with h' | h'
    · exact h'
    · simp [Array.getElem?_eq_none h'] at hbk
  have hb2 : w2.heap[b]? = some (.cells #[.pointer (some ⟨b, 0, none⟩), v] 111 (0, 0)) := by
    rw [hgrow.block b (by simp; omega) (fun e => hne e.symm), Lib.alloc_old w1 _ b hlt]
    exact hbk
  have d0 : w2.cell? ⟨b, 0, none⟩ = some (.pointer (some ⟨b, 0, none⟩)) := by rw [Lib.cell_of_heap hb2]; rfl
  have d1 : w2.cell? ⟨b, 1, none⟩ = some v := by rw [Lib.cell_of_heap hb2]; rfl
  have f1 : w2.frozen? ⟨b, 1, none⟩ = false := Lib.frozen_of_heap hb2 1
  obtain ⟨g, cap, rfl⟩ : ∃ g cap, v' = .slice (some ⟨g, 0, none⟩) (bs.length + 1) cap := by
    rcases hown'.2 with ⟨_, h0⟩ | ⟨g, cap, cur, hv, _⟩
    · omega
    · exact ⟨g, cap, hv⟩
  go_wp2
  go_ret
  refine ⟨rfl, Or.inr ?_, ?_⟩
  · exact Lib.BuilderAt.put (T := 111) (e := 5) hB hb2 (bs' := bs ++ [.int .u8 c]) (by simpa using hown') (by decide)
  · exact ((hb1.alloc (by have := hb1.size; omega) _).grown hgrow (by have := hb1.size; simp; omega) (fun k hk => (hown.lt k hk).1)).setCell (p := ⟨b, 1, none⟩) hB _
end Go.Proofs.YtappfhjknihboaaGreatDoor


/- names.Fold, and the reference's. -/
namespace Go.Proofs.YtappfhjknihboaaGreatDoor
open Go.RowKit

set_option maxHeartbeats 400000 in
theorem Fold1_any (s : ByteArray) (k : Nat) (p : Addr) (w : World) (hp : w.cell? p = some (.string s)) (hk : k < s.size) (_hs : s.size ≤ maxLen) :
    Calls Tryz.prog 96 #[.int .i64 k, .pointer (some p)] w fun e w' => e = .returned (.int .u8 (capI (bt s k))) ∧ w = w' := by
  have hg := get_bt s k hk
  have hr := bt_range s k
  have hs := _hs
  unfold maxLen at hs
  obtain ⟨c, hc⟩ : ∃ c, bt s k = c := ⟨_, rfl⟩
  rw [hc] at hg hr ⊢
  clear hc
  by_cases h1 : 97 ≤ c
  · by_cases h2 : c ≤ 122
    · have e1 : capI c = c - 32 := by rw [capI, if_pos ⟨h1, h2⟩]
      rw [e1]
      clear e1
      have b1 : IntKind.u8.wrap (c - 97) = c - 97 := IntWalk.u8_in _ (by omega)
      have b2 : IntKind.u8.wrap (c - 97 + 65) = c - 32 := by rw [IntWalk.u8_in _ (by omega)]; omega
      go_enter Tryz.func96, Tryz.ntmps96
      go_wp2
      go_ret
      exact ⟨rfl, rfl⟩
    · have e1 : capI c = c := by rw [capI, if_neg (by omega)]
      rw [e1]
      clear e1
      go_enter Tryz.func96, Tryz.ntmps96
      go_wp2
      go_ret
      exact ⟨rfl, rfl⟩
  · have e1 : capI c = c := by rw [capI, if_neg (by omega)]
    rw [e1]
    clear e1
    go_enter Tryz.func96, Tryz.ntmps96
    go_wp2
    go_ret
    exact ⟨rfl, rfl⟩

set_option maxHeartbeats 1000000 in
theorem Fold_any (s : ByteArray) (w : World) (hs : s.size ≤ 140737488355327) :
    Calls Tryz.prog 39 #[.string s] w fun e w' => e = .returned (.string (foldB s)) ∧ Below w.heap.size w w' := by
  have hmf : ∀ (fn : Fn) (first cap : Array Value) (w : World), (Instr.makeFunc fn first cap).run Tryz.prog w = .ok (.func fn first cap) w := fun _ _ _ _ => rfl
  go_enter Tryz.func39, Tryz.ntmps39
  go_wp2_with fail
  go_loopw [9] (fun i wr => ∃ k : Nat, i = .int .i64 k ∧ k ≤ s.size ∧ Hid (IsB (w.heap.size + 1) (Lib.byteCells ((foldL s).take k)) wr) ∧ Hid (wr.cell? ⟨w.heap.size, 0, none⟩ = some (.string s)) ∧ Hid (Below w.heap.size w wr)) (fun i _ => s.size - (intOf i).toNat)
  case atStart =>
    refine ⟨0, rfl, by omega, Lib.hid ?_, Lib.hid (by simp), Lib.hid (((Below.refl _ _).alloc (Nat.le_refl _) _).alloc (by simp) _)⟩
    have := Lib.fresh_isBuilder 111 5 (w.alloc (.cells #[.string s] 9))
    simpa [IsB, Lib.byteCells] using this
  case round =>
    obtain ⟨k, rfl, hk, HI, HC, HB⟩ := hrel
    by_cases hlt : k < s.size
    · have hsn := foldL_snoc s k hlt
      have hci := capI_eq (s[k]'hlt)
      rw [get_bt s k hlt] at hci
      have hlen : (Lib.byteCells ((foldL s).take k)).length = k := by rw [Lib.byteCells_length, List.length_take, foldL_len]; omega
      have HS := Lib.hid hsn
      have HL := Lib.hid hlen
      have HCI := Lib.hid hci
      clear hsn hci hlen
      go_wp2_with (go_at_call 96; refine (Fold1_any s k _ _ HC.out hlt (by unfold maxLen; omega)).mono ?_; rintro e w' ⟨rfl, rfl⟩)
      refine (WriteByte _ _ _ _ HI.out (by have := HL.out; omega) (by have := HB.out.size; have := World.block_lt_of_cell? _ _ HC.out; simp at this; omega)).mono ?_
      rintro e w2 ⟨rfl, hI, hb⟩
      have HI2 := Lib.hid hI
      have HC2 := Lib.hid ((hb.cell (p := ⟨w.heap.size, 0, none⟩) (by simp)).trans HC.out)
      have HB2 := Lib.hid (HB.out.trans (hb.mono (by omega)))
      clear hI hb
      go_wp2
      go_roundw
      case rel => exact ⟨k + 1, by go_num, by omega, Lib.hid (by rw [HS.out, Lib.byteCells_append]; have := HI2.out; rw [HCI.out] at this; exact this), HC2, HB2⟩
      case measure => simp [intOf] <;> omega
    · obtain rfl : k = s.size := by omega
      have hI := HI.out
      rw [List.take_of_length_le (by rw [foldL_len]; omega)] at hI
      have HI2 := Lib.hid hI
      clear hI HI
      go_wp2_with fail
      refine (Builder_String _ _ _ HI2.out (by have := HB.out.size; have := World.block_lt_of_cell? _ _ HC.out; simp at this; omega)).mono ?_
      rintro e w2 ⟨rfl, hb⟩
      have HB2 := Lib.hid (HB.out.trans (hb.mono (by omega)))
      clear hb
      go_wp2
      go_ret
      exact ⟨rfl, HB2.out⟩

theorem byteCells_nums (l : List UInt8) : Lib.byteCells l = nums .u8 (l.map fun b => (b.toNat : Int)) := by simp [Lib.byteCells, nums, Function.comp_def]
theorem strOf_bytes (l : List UInt8) : strOf (l.map fun b => (b.toNat : Int)) = ⟨l.toArray⟩ := by
  simp [strOf, strOfNums, Function.comp_def]
theorem conv_bytes {w : World} {A : Option Addr} {c : Nat} {l : List UInt8} (h : Rd w A l.length c 1 (Lib.byteCells l)) : (convert 22 9 (.slice A l.length c)).run Tryz.prog w = .ok (.string ⟨l.toArray⟩) w := by
  have h2 : RdI w .u8 A c (l.map fun b => (b.toNat : Int)) := by
    rw [byteCells_nums] at h
    show Rd w A (l.map fun b => (b.toNat : Int)).length c 1 _
    rw [List.length_map]
    exact h
  have := conv_rd (P := Tryz.prog) Tryz.underlying22 Tryz.underlying5 Tryz.underlying9 h2
  rw [strOf_bytes] at this
  simpa using this
/-- The reference's: byte by byte. -/
theorem RCap_any (c : Int) (w : World) (h0 : 0 ≤ c) (h1 : c < 256) :
    Calls Tryz.prog 121 #[.int .u8 c] w fun e w' => e = .returned (.int .u8 (capI c)) ∧ w = w' := by
  by_cases ha : 97 ≤ c
  · by_cases hb : c ≤ 122
    · have e1 : capI c = c - 32 := by rw [capI, if_pos ⟨ha, hb⟩]
      rw [e1]
      clear e1
      have b1 : IntKind.u8.wrap (c - 32) = c - 32 := IntWalk.u8_in _ (by omega)
      go_enter Tryz.func121, Tryz.ntmps121
      go_wp2
      go_ret
      exact ⟨rfl, rfl⟩
    · have e1 : capI c = c := by rw [capI, if_neg (by omega)]
      rw [e1]
      clear e1
      go_enter Tryz.func121, Tryz.ntmps121
      go_wp2
      go_ret
      exact ⟨rfl, rfl⟩
  · have e1 : capI c = c := by rw [capI, if_neg (by omega)]
    rw [e1]
    clear e1
    go_enter Tryz.func121, Tryz.ntmps121
    go_wp2
    go_ret
    exact ⟨rfl, rfl⟩

theorem infoU8F : (Tryz.prog.info? 5).map (fun i => (i.zero, i.size, i.bytes)) = some (some (.int .u8 0), 1, 1) := by kernel_rfl

set_option maxRecDepth 100000 in
set_option maxHeartbeats 1000000 in
theorem RFold_any (s : ByteArray) (w : World) (hs : s.size ≤ 140737488355327) :
    Calls Tryz.prog 94 #[.string s] w fun e w' => e = .returned (.string (foldB s)) ∧ Below w.heap.size w w' := by
  go_enter Tryz.func94, Tryz.ntmps94
  go_wp2_with fail
  go_loopw [3, 4] (fun x i wr => ∃ k : Nat, i = .int .i64 k ∧ k ≤ s.size ∧ Hid (wr.ownsRow w.heap.size 5 1 x k (Lib.byteCells ((foldL s).take k))) ∧ Hid (Below w.heap.size w wr)) (fun _ i _ => s.size - (intOf i).toNat)
  case atStart => exact ⟨0, rfl, by omega, Lib.hid ⟨rfl, .inl ⟨rfl, rfl⟩⟩, Lib.hid (Below.refl _ _)⟩
  case round =>
    obtain ⟨k, rfl, hk, HO, HB⟩ := hrel
    by_cases hlt : k < s.size
    · have hsn := foldL_snoc s k hlt
      have hci := capI_eq (s[k]'hlt)
      rw [get_bt s k hlt] at hci
      have hg := get_bt s k hlt
      have hr := bt_range s k
      have HS := Lib.hid hsn
      have HCI := Lib.hid hci
      clear hsn hci
      generalize bt s k = c at *
      go_wp2_with (first
        | (go_at_call 121; refine (RCap_any c _ hr.1 hr.2).mono ?_; rintro e w' ⟨rfl, rfl⟩)
        | (refine wp_app1 (w0 := w) rfl (.tmp 11) (.tmp 16) 22 5 (.int .u8 0) 1 rfl Tryz.underlying22 infoU8F rfl (by decide) w.heap.size _ k (Lib.byteCells ((foldL s).take k)) (.int .u8 (capI c)) rfl HO.out rfl rfl (by omega) HB.out.size HB.out ?_))
      intro v1 w1 ho hb _
      have HO2 := Lib.hid ho
      have HB2 := Lib.hid hb
      clear ho hb
      go_wp2
      go_roundw
      case rel => exact ⟨k + 1, by go_num, by omega, Lib.hid (by rw [HS.out, Lib.byteCells_append]; have := HO2.out; rw [HCI.out] at this; exact this), HB2⟩
      case measure => simp [intOf] <;> omega
    · obtain rfl : k = s.size := by omega
      have ho := HO.out
      rw [List.take_of_length_le (by rw [foldL_len]; omega)] at ho
      obtain ⟨A, c, rfl, hr⟩ := Rd.own ho
      have hc : (convert 22 9 (.slice A s.size c)).run Tryz.prog wr = .ok (.string (foldB s)) wr := by
        have e := foldL_len s
        have := conv_bytes (w := wr) (A := A) (c := c) (l := foldL s) (by rw [e]; exact hr)
        rw [e] at this
        exact this
      clear ho hr HO
      go_wp2
      go_ret
      exact ⟨rfl, HB.out⟩

theorem toList_empty (s : ByteArray) : s.toList.isEmpty = decide (s.size = 0) := by
  rw [ByteArray.toList_eq]
  have : s.data.toList.length = s.size := by simp
  cases h : s.data.toList with
  | nil => rw [h] at this; simp at this; simp [← this]
  | cons a b =>
    rw [h, List.length_cons] at this
    rw [decide_eq_false (by omega)]
    rfl

end Go.Proofs.YtappfhjknihboaaGreatDoor


/- Structs in blocks of the call's own: stored, loaded, handed back; worlds kept shut. No program in sight. -/
namespace Go.Proofs.YtappfhjknihboaaGreatDoor
open Go.RowKit

/-- Block g holds these cells. -/
def Bx (w : World) (g : Nat) (t : TypeId) (cs : List Value) : Prop := w.heap[g]? = some (.cells cs.toArray t (0, 0))
theorem Bx.lt {w : World} {g : Nat} {t : TypeId} {cs : List Value} (h : Bx w g t cs) : g < w.heap.size := (Array.getElem?_eq_some_iff.1 h).1
theorem Bx.below {w w' : World} {g : Nat} {t : TypeId} {cs : List Value} (h : Bx w g t cs) (hb : Below w.heap.size w w') : Bx w' g t cs := (hb.block g h.lt).trans h
theorem Bx.grown {w w' : World} {g k : Nat} {t : TypeId} {cs : List Value} (h : Bx w g t cs) (hg : w.grownBy w' (some k)) (hne : g ≠ k) : Bx w' g t cs := (hg.block g h.lt (fun e => hne (by injection e))).trans h
theorem Bx.alloc {w : World} {g : Nat} {t : TypeId} {cs : List Value} (h : Bx w g t cs) (o : Obj) : Bx (w.alloc o) g t cs := (heap_alloc_old w o h.lt).trans h
theorem Bx.new (w : World) (t : TypeId) (cs : List Value) (arr : Array Value) (g : Nat) (hg : w.heap.size = g) (h : arr = cs.toArray) : Bx (w.alloc (.cells arr t)) g t cs := by
  subst hg h
  exact heap_alloc_new w _
theorem Bx.cell {w : World} {g : Nat} {t : TypeId} {cs : List Value} (h : Bx w g t cs) (k : Nat) : w.cell? ⟨g, k, none⟩ = cs[k]? := by
  rw [cell_of_row w g k _ t _ h]
  simp
theorem Bx.free {w : World} {g : Nat} {t : TypeId} {cs : List Value} (h : Bx w g t cs) (k : Nat) : w.frozen? ⟨g, k, none⟩ = false := frozen_of_row w g k _ t h
theorem grown_setRow (w : World) (g : Nat) (cs : Array Value) : w.grownBy (w.setRow g cs) (some g) :=
  ⟨rfl, rfl, rfl, by simp, fun k _ hk => setRow_other w g k cs (fun e => hk (by rw [e]))⟩
theorem grown_setCell (w : World) (g k : Nat) (v : Value) : w.grownBy (w.setCell ⟨g, k, none⟩ v) (some g) :=
  ⟨rfl, rfl, rfl, by simp [World.setCell], fun j _ hj => heap_setCell_other w _ j v (fun e => hj (by rw [e]))⟩
theorem below_grown {w0 w w' : World} {B g : Nat} (h : Below B w0 w) (hB : B ≤ w.heap.size) (hg : w.grownBy w' (some g)) (hg0 : B ≤ g) : Below B w0 w' :=
  h.grown hg hB (fun k hk => by cases hk; exact hg0)
theorem below_set {w0 w : World} {B k : Nat} {v : Value} (h : Below B w0 w) : Below B w0 (w.setCell ⟨B, k, none⟩ v) := h.setCell (p := ⟨B, k, none⟩) (Nat.le_refl _) _
theorem own_grown {w w' : World} {base n size g : Nat} {e : TypeId} {v : Value} {cs : List Value} (h : w.ownsRow base e size v n cs) (hg : w.grownBy w' (some g)) (hne : v.ownBlock ≠ some g) : w'.ownsRow base e size v n cs :=
  h.kept hg (.inr hne)
theorem rd_grown {w w' : World} {A : Option Addr} {n c size g : Nat} {cs : List Value} (h : Rd w A n c size cs) (hg : w.grownBy w' (some g)) (hne : ∀ ad, A = some ad → ad.block ≠ g) : Rd w' A n c size cs :=
  ⟨h.len, h.le, h.cap, h.nil, fun j u hj => by
    obtain ⟨ad, e, hc⟩ := h.cell j u hj
    refine ⟨ad, e, hg.cell hc ?_⟩
    intro e2
    injection e2 with e2
    apply hne ad e
    rw [← e2]
    unfold Addr.add
    split <;> rfl⟩

theorem own_keep {w w' : World} {base n size k : Nat} {e : TypeId} {v : Value} {cs : List Value} (h : w.ownsRow base e size v n cs) (hg : w.grownBy w' (some k)) (hk : k < base) : w'.ownsRow base e size v n cs :=
  own_grown h hg (fun e1 => by have := (h.lt k e1).1; omega)
theorem own_rd {w : World} {base n c size : Nat} {e : TypeId} {A : Option Addr} {cs : List Value} (h : w.ownsRow base e size (.slice A n c) n cs) : Rd w A n c size cs := by
  obtain ⟨A', c', e1, hr⟩ := Rd.own h
  cases e1
  exact hr

theorem Bx.setc {w : World} {g : Nat} {t : TypeId} {cs : List Value} (h : Bx w g t cs) (k : Nat) (v : Value) : Bx (w.setCell ⟨g, k, none⟩ v) g t (cs.set k v) := by
  have := heap_setCell_same w g k cs.toArray t v h
  rw [List.setIfInBounds_toArray] at this
  exact this
/-- A struct is stored whole. -/
theorem wp_storeS {P : Program} {ops : Array Oper} {rest : List Oper} {o : Oper} {a : Act} {w : World} {Q : Exit → Act → World → Prop} (hgd : o.guard = none) (ty : TypeId) (x y : Operand) (ho : o.op = .store ty x y)
    (g : Nat) (cells : List Value) (hx : a.eval x = .pointer (some ⟨g, 0, none⟩)) (hy : a.eval y = .agg cells.toArray)
    (t : TypeId) (old : List Value) (hg : Bx w g t old) (m : Nat) (hi : (P.info? ty).map (·.size) = some m) (hm : cells.length = m)
    (hold : old.length = m) (h1 : cells.all (·.oneCell') = true)
    (h : ∀ w', Bx w' g t cells → w.grownBy w' (some g) → wpList P ops Q rest (a.put o.dst undef) w') : wpList P ops Q (o :: rest) a w :=
  wpList_store_row hgd ty x y ho g cells.toArray hx hy t old.toArray hg (by rw [hi, List.size_toArray, hm]) (by simp; omega) (by simpa using h1) (h _ (setRow_heap w g _ _ t _ hg) (grown_setRow w g _))
/-- .. and loaded. -/
theorem wp_loadS {P : Program} {ops : Array Oper} {rest : List Oper} {o : Oper} {a : Act} {w : World} {Q : Exit → Act → World → Prop} (hgd : o.guard = none) (ty : TypeId) (x : Operand) (ho : o.op = .load ty x)
    (g : Nat) (hx : a.eval x = .pointer (some ⟨g, 0, none⟩)) (t : TypeId) (cs : List Value) (d : TypeDesc) (hg : Bx w g t cs)
    (hu : P.underlying ty = some d) (hd : (match d with | .struct _ | .array _ _ => true | _ => false) = true) (m : Nat) (hi : (P.info? ty).map (·.size) = some m) (hm : cs.length = m)
    (h : wpList P ops Q rest (a.put o.dst (.agg cs.toArray)) w) : wpList P ops Q (o :: rest) a w :=
  wpList_load_row hgd ty x ho g hx t cs.toArray (0, 0) d hg hu hd (by rw [hi, List.size_toArray, hm]) h
/-- One field is stored. -/
theorem wp_storeF {P : Program} {ops : Array Oper} {rest : List Oper} {o : Oper} {a : Act} {w : World} {Q : Exit → Act → World → Prop} (hgd : o.guard = none) (ty : TypeId) (x y : Operand) (ho : o.op = .store ty x y)
    (g k : Nat) (v : Value) (hx : a.eval x = .pointer (some ⟨g, k, none⟩)) (hy : a.eval y = v) (h1 : v.oneCell' = true)
    (t : TypeId) (cs : List Value) (hg : Bx w g t cs) (m : Nat) (hm : cs.length = m) (hkm : k < m) (hi : (P.info? ty).map (·.size) = some 1)
    (h : ∀ w', Bx w' g t (cs.set k v) → w.grownBy w' (some g) → wpList P ops Q rest (a.put o.dst undef) w') : wpList P ops Q (o :: rest) a w := by
  have hk : k < cs.length := by omega
  refine wpList_plain hgd fun K' hK' => ?_
  have hb : Bx (w.setCell ⟨g, k, none⟩ v) g t (cs.set k v) := by
    have := heap_setCell_same w g k cs.toArray t v hg
    rw [List.setIfInBounds_toArray] at this
    exact this
  have hc : w.cell? ⟨g, k, none⟩ = some cs[k] := by rw [hg.cell k, List.getElem?_eq_getElem hk]
  have hrun : (Instr.storeAt ty (.pointer (some ⟨g, k, none⟩)) v).run P w = .ok () (w.setCell ⟨g, k, none⟩ v) := by
    cases hq : P.info? ty with
    | none => rw [hq] at hi; cases hi
    | some i =>
      have hs : i.size = 1 := by rw [hq] at hi; simpa using hi
      have hst := run_store P w ⟨g, k, none⟩ v .plain h1
      have hv : v.cells = #[v] := by cases v <;> first | rfl | (simp [Value.oneCell'] at h1)
      have ha : (⟨g, k, none⟩ : Addr).add 0 = ⟨g, k, none⟩ := rfl
      simp only [Instr.storeAt, Instr.sureAddr, Sem.run_bind, Sem.run_pure, Result.andThen_ok, storeVar, sizeOf, typeInfo]
      simp [hq, hs, hv, storeCells, ha, hst, hc, hg.free k]
  unfold Oper.wp execOp
  simp only [ho, hx, hy, Sem.run_bind, hrun, Sem.run_pure, Result.andThen_ok]
  exact hK' _ _ (h _ hb (grown_setCell w g k v))

/-- A struct is stored among others. -/
theorem wp_storeM {P : Program} {ops : Array Oper} {rest : List Oper} {o : Oper} {a : Act} {w : World} {Q : Exit → Act → World → Prop} (hgd : o.guard = none) (ty : TypeId) (x y : Operand) (ho : o.op = .store ty x y)
    (g k : Nat) (cells : List Value) (hx : a.eval x = .pointer (some ⟨g, k, none⟩)) (hy : a.eval y = .agg cells.toArray) (h1 : cells.all (·.oneCell') = true)
    (t : TypeId) (cs : List Value) (hg : Bx w g t cs) (m : Nat) (hm : cells.length = m) (hk : k + m ≤ cs.length) (hi : (P.info? ty).map (·.size) = some m)
    (h : ∀ w', Bx w' g t (splice cs k cells) → w.grownBy w' (some g) → wpList P ops Q rest (a.put o.dst undef) w') : wpList P ops Q (o :: rest) a w := by
  refine wpList_plain hgd fun K' hK' => ?_
  have hst := run_storeCells_at (P := P) g k t cells 0 cs.toArray w hg (by simp; omega) (fun v hv => by simpa using List.all_eq_true.1 h1 v hv)
  simp only [Nat.add_zero] at hst
  have hrun : (Instr.storeAt ty (.pointer (some ⟨g, k, none⟩)) (.agg cells.toArray)).run P w = .ok () (w.setRow g (splice cs k cells).toArray) := by
    cases hq : P.info? ty with
    | none => rw [hq] at hi; cases hi
    | some i =>
      have hs : cells.length = i.size := by rw [hq] at hi; rw [hm]; simpa using hi.symm
      simp only [Instr.storeAt, Instr.sureAddr, Sem.run_bind, Sem.run_pure, Result.andThen_ok, storeVar, sizeOf, typeInfo]
      simp [hq, hs, Value.cells, hst, splice]
  unfold Oper.wp execOp
  simp only [ho, hx, hy, Sem.run_bind, hrun, Sem.run_pure, Result.andThen_ok]
  exact hK' _ _ (h _ (setRow_heap w g _ _ t _ hg) (grown_setRow w g _))
/-- clear, of what stands behind. -/
theorem wp_clear {P : Program} {ops : Array Oper} {rest : List Oper} {o : Oper} {a : Act} {w : World} {Q : Exit → Act → World → Prop} (hgd : o.guard = none) (x : Operand) (ts e : TypeId)
    (ho : o.op = .call { callee := .builtin .clear, args := #[x], argTypes := #[ts] }) (ht : P.underlying ts = some (.slice e)) (z : Value) (hz : ∀ w, (zeroValue e).run P w = .ok z w) (k : Nat) (hzk : z.cells.size = k) (hz1 : ∀ v ∈ z.cells.toList, v.oneCell' = true)
    (g off n c : Nat) (hx : a.eval x = .slice (some ⟨g, off, none⟩) n c) (h0 : 0 < n) (t : TypeId) (cs : List Value) (hg : Bx w g t cs) (hk : off + n * k ≤ cs.length)
    (h : ∀ w' cs', Bx w' g t cs' → cs'.length = cs.length → cs'.take off = cs.take off → w.grownBy w' (some g) → wpList P ops Q rest (a.put o.dst (.tuple #[])) w') : wpList P ops Q (o :: rest) a w := by
  refine wpList_plain hgd fun K' hK' => ?_
  have hlz : (Builtin.zeroCells z.cells n).toList.length = n * k := by rw [Array.length_toList, size_zeroCells, hzk]
  have h1z : ∀ v ∈ (Builtin.zeroCells z.cells n).toList, v.oneCell' = true := by
    intro v hv
    simp only [Builtin.zeroCells, Array.toList_map, List.mem_map] at hv
    obtain ⟨i, hi, rfl⟩ := hv
    have hi2 : i < n * k := by rw [hzk] at hi; simpa using hi
    have hk0 : 0 < k := by
      rcases Nat.eq_zero_or_pos k with h | h
      · rw [h] at hi2; simp at hi2
      · exact h
    have h3 : i % z.cells.size < z.cells.size := Nat.mod_lt _ (by rw [hzk]; exact hk0)
    rw [getElem!_pos z.cells _ h3]
    exact hz1 _ (by simp)
  have hst := run_storeCells_at (P := P) g off t (Builtin.zeroCells z.cells n).toList 0 cs.toArray w hg (by simp only [hlz]; simpa using hk) h1z
  simp only [Nat.add_zero] at hst
  have hrun : (Builtin.clear_ #[ts] o.type #[.slice (some ⟨g, off, none⟩) n c]).run P w = .ok (.tuple #[]) (w.setRow g (splice cs off (Builtin.zeroCells z.cells n).toList).toArray) := by
    obtain ⟨m, rfl⟩ : ∃ m, n = m + 1 := ⟨n - 1, by omega⟩
    simp [Builtin.clear_, run_underlying ht, hz, hst, splice, Result.andThen]
  unfold Oper.wp
  simp [execOp, ho, resolve, invoke, builtin, hx, hrun, Result.andThen]
  refine hK' _ _ (h _ _ (setRow_heap w g _ _ t _ hg) ?_ ?_ (grown_setRow w g _))
  · rw [length_splice _ _ _ (by rw [hlz]; exact hk)]
  · simp only [splice]
    rw [List.take_append_of_le_length (by simp; omega), List.take_take, Nat.min_self]

/-- Two results, the first one a struct in a block. -/
theorem results_S {P : Program} {fn : Func} {p u : Tmp} {ty : TypeId} (h : fn.results = #[.cell p ty, .tmp u]) (tmps : Array Value) (w : World) (g : Nat) (t : TypeId) (cs : List Value) (d : TypeDesc)
    (hp : tmps.getD p undef = .pointer (some ⟨g, 0, none⟩)) (hg : Bx w g t cs)
    (hu : P.underlying ty = some d) (hd : (match d with | .struct _ | .array _ _ => true | _ => false) = true) (m : Nat) (hi : (P.info? ty).map (·.size) = some m) (hm : cs.length = m) (r : Value) (hr : tmps.getD u undef = r) :
    (results fn tmps).run P w = .ok (.tuple #[.agg cs.toArray, r]) w := by
  rw [results_cell_tmp h, hp, hr]
  simp [asAddr, run_loadVar_row w g t ty cs.toArray (0, 0) d hg hu hd (by rw [hi, List.size_toArray, hm]), Result.andThen]
end Go.Proofs.YtappfhjknihboaaGreatDoor


/- append to a row of the call's own, as a step of a region that draws its order. -/
namespace Go.Proofs.YtappfhjknihboaaGreatDoor
open Go.RowKit

theorem step_app {P : Program} {ops : Array Oper} {o : Oper} {a : Act} {w : World} {K : Act → World → Prop} {Q : Exit → Act → World → Prop} {E : Prop} {w0 : World} (hg : o.guard = none) (s x : Operand) (t e : TypeId) (z : Value) (size bytes : Nat)
    (ho : o.op = .call { callee := .builtin .append, args := #[s, x], argTypes := #[t, t] }) (ht : P.underlying t = some (.slice e))
    (hinfo : (P.info? e).map (fun i => (i.zero, i.size, i.bytes)) = some (some z, size, bytes)) (hzs : z.cells.size = size) (hsz : 0 < size) (hb0 : 0 < bytes)
    (B : Nat) (v : Value) (n : Nat) (xs : List Value) (hs : a.eval s = v) (hown : w.ownsRow B e size v n xs)
    (A : Option Addr) (m c : Nat) (news : List Value) (hx : a.eval x = .slice A m c) (hrd : Rd w A m c size news) (h1 : ∀ u ∈ news, u.oneCell' = true)
    (hbytes : (n + m) * bytes ≤ 140737488355328) (hB : B ≤ w.heap.size) (hbel : Below B w0 w)
    (h : ∀ v' w', w'.ownsRow B e size v' (n + m) (xs ++ news) → Below B w0 w' → w.grownBy w' v.ownBlock → K (a.put o.dst v') w') :
    if Region.wanted o (yielded ops a.tmps) = true then Oper.wp P o a w K Q else E := by
  have hw : Region.wanted o (yielded ops a.tmps) = true := by simp [Region.wanted, hg]
  rw [if_pos hw]
  obtain ⟨i0, hi, hzz⟩ := Option.map_eq_some_iff.1 hinfo
  simp only [Prod.mk.injEq] at hzz
  obtain ⟨hz0, hz1, hz2⟩ := hzz
  have hnm : n + m ≤ 140737488355328 := Nat.le_trans (Nat.le_mul_of_pos_right _ hb0) hbytes
  cases A with
  | none =>
    obtain rfl := hrd.nil rfl
    obtain rfl : m = 0 := by have := hrd.le; omega
    obtain rfl : news = [] := List.eq_nil_of_length_eq_zero (by simpa using hrd.len)
    have hrun := run_append_owned_none (P := P) (w := w) B t o.type e i0 size ht hi v n xs hown
    exact Lib.wp_append_run w s x t t ho v (.slice none 0 0) hs hx v w hrun (h v w (by simpa using hown) hbel ⟨rfl, rfl, rfl, Nat.le_refl _, fun _ _ _ => rfl⟩)
  | some ad =>
    refine wp_append_own w s x t ho B e i0 z size bytes ht hi hz0 hz1 hz2 hzs hsz v n xs hs hown ad m c news hx hrd.len (fun j u hj => ?_) h1 (by simp only [maxLen]; omega) hbytes hB ?_
    · obtain ⟨ad', e1, hc⟩ := hrd.cell j u hj
      cases e1
      exact hc
    · intro v' w' ho' hg _
      exact h v' w' ho' (hbel.grown hg hB fun k hk => (by
        rcases hown.2 with ⟨rfl, _⟩ | ⟨g, cap, cur, rfl, hb, _⟩
        · simp [Value.ownBlock] at hk
        · have : g = k := by simpa [Value.ownBlock] using hk
          omega)) hg
end Go.Proofs.YtappfhjknihboaaGreatDoor


/- append to a slice that has no room left. No program in sight. -/
namespace Go.Proofs.YtappfhjknihboaaGreatDoor
open Go.RowKit

theorem Rd.clip {w : World} {A : Option Addr} {n c size : Nat} {cs : List Value} (h : Rd w A n c size cs) : Rd w A n n size cs :=
  ⟨h.len, Nat.le_refl _, Nat.le_trans h.le h.cap, fun hn => by have := h.nil hn; have := h.le; omega, h.cell⟩
theorem below_of_grown {w w' : World} (h : w.grownBy w' none) : Below w.heap.size w w' := ⟨h.os, h.tape, h.output, h.size, fun k hk => h.block k hk (by simp)⟩
theorem wp_appG {P : Program} {ops : Array Oper} {rest : List Oper} {o : Oper} {a : Act} {Q : Exit → Act → World → Prop} {w : World} (hgd : o.guard = none) (s x : Operand) (t e : TypeId) (z : Value) (size bytes : Nat)
    (ho : o.op = .call { callee := .builtin .append, args := #[s, x], argTypes := #[t, t] }) (ht : P.underlying t = some (.slice e))
    (hinfo : (P.info? e).map (fun i => (i.zero, i.size, i.bytes)) = some (some z, size, bytes)) (hzs : z.cells.size = size) (hsz : 0 < size) (hb0 : 0 < bytes)
    (A : Option Addr) (n : Nat) (olds : List Value) (hs : a.eval s = .slice A n n) (hrd : Rd w A n n size olds)
    (X : Option Addr) (m c : Nat) (news : List Value) (hx : a.eval x = .slice X m c) (hrx : Rd w X m c size news) (hm : 0 < m) (h1 : ∀ u ∈ news, u.oneCell' = true)
    (hbytes : (n + m) * bytes ≤ 140737488355328)
    (h : ∀ A' c' w', w'.ownsRow w.heap.size e size (.slice A' (n + m) c') (n + m) (olds ++ news) → Below w.heap.size w w' → wpList P ops Q rest (a.put o.dst (.slice A' (n + m) c')) w') : wpList P ops Q (o :: rest) a w := by
  obtain ⟨i0, hi, hzz⟩ := Option.map_eq_some_iff.1 hinfo
  simp only [Prod.mk.injEq] at hzz
  obtain ⟨hz0, hz1, hz2⟩ := hzz
  have hnm : n + m ≤ 140737488355328 := Nat.le_trans (Nat.le_mul_of_pos_right _ hb0) hbytes
  obtain ⟨ad, rfl, _⟩ := hrx.cell 0 _ (List.getElem?_eq_getElem (by rw [hrx.len]; exact Nat.mul_pos hm hsz))
  refine wpList_append_grows w hgd s x t ho e i0 z size bytes ht hi hz0 hz1 hz2 hzs hsz A n n olds hs (fun e => ⟨by have := hrd.nil e; omega, hrd.nil e⟩) hrd.len (fun b hb j u hj => ?_) ad m c news hx hrx.len (fun j u hj => ?_) h1 (by omega) (by simp only [maxLen]; omega) hbytes ?_
  · obtain ⟨ad', e1, hc⟩ := hrd.cell j u hj
    rw [hb] at e1
    cases e1
    exact hc
  · obtain ⟨ad', e1, hc⟩ := hrx.cell j u hj
    cases e1
    exact hc
  · intro v' w' ho' hg
    obtain ⟨A', c', rfl, _⟩ := Rd.own ho'
    exact h A' c' w' ho' (below_of_grown hg)
end Go.Proofs.YtappfhjknihboaaGreatDoor


/- Maps by strings whose keys are all known: set and looked up. No program in sight. -/
namespace Go.Proofs.YtappfhjknihboaaGreatDoor
open Go.RowKit Go.MapKept

abbrev Mp (w : World) (r : Nat) (es : Array MapEntry) (c : Nat) : Prop := w.heap[r]? = some (.map es c)
theorem Mp.below {w w' : World} {r c : Nat} {es : Array MapEntry} (h : Mp w r es c) (hb : Below w.heap.size w w') : Mp w' r es c := (hb.block r (Array.getElem?_eq_some_iff.1 h).1).trans h
theorem Mp.new (w : World) : Mp (w.alloc (.map #[] 0)) w.heap.size #[] 0 := World.alloc_heap_new w _

theorem run_set_new {P : Program} {w : World} {t kt e : TypeId} {r c : Nat} {es : Array MapEntry} {s : ByteArray} {v : Value} (ht : P.underlying t = some (.map kt e)) (hk : P.underlying kt = some .string) (hm : Mp w r es c) (hf : Instr.findNow .string (.string s) es.toList 0 = some none) :
    (Instr.mapUpdate t (.map (some r)) (.string s) v).run P w = .ok () (w.putObj r (.map (es.push { key := .string s, val := v, born := c }) (c + 1))) := by
  have hg : (getObj r).run P w = .ok (.map es c) w := by simp [getObj, Sem.run, hm]
  have hs : ∀ o, (setObj r o).run P w = .ok () (w.putObj r o) := fun o => by simp [setObj, Sem.run, hm, World.putObj]
  have hc : (Instr.checkKey false 10000 kt (.string s)).run P w = .ok () w := run_checkKey hk (by trivial) false 9999
  simp [Instr.mapUpdate, run_underlying ht, hg, hc, Instr.findKey, run_underlying hk, hf, hs, Result.andThen]
theorem run_get {P : Program} {w : World} {t kt e : TypeId} {r c : Nat} {es : Array MapEntry} {s : ByteArray} {v : Value} {i : Nat} (ht : P.underlying t = some (.map kt e)) (hk : P.underlying kt = some .string) (hm : Mp w r es c) (hf : Instr.findNow .string (.string s) es.toList 0 = some (some (i, v))) :
    (Instr.lookup t (.map (some r)) (.string s) false).run P w = .ok v w := by
  have hg : (getObj r).run P w = .ok (.map es c) w := by simp [getObj, Sem.run, hm]
  have hc : ∀ b, (Instr.checkKey b 10000 kt (.string s)).run P w = .ok () w := fun b => run_checkKey hk (by trivial) b 9999
  simp [Instr.lookup, run_underlying ht, hg, hc, Instr.findKey, run_underlying hk, hf, Result.andThen]
theorem run_get_none {P : Program} {w : World} {t kt e : TypeId} {r c : Nat} {es : Array MapEntry} {s : ByteArray} {z : Value} (ht : P.underlying t = some (.map kt e)) (hk : P.underlying kt = some .string) (hz : (zeroValue e).run P w = .ok z w) (hm : Mp w r es c) (hf : Instr.findNow .string (.string s) es.toList 0 = some none) :
    (Instr.lookup t (.map (some r)) (.string s) false).run P w = .ok z w := by
  have hg : (getObj r).run P w = .ok (.map es c) w := by simp [getObj, Sem.run, hm]
  have hc : ∀ b, (Instr.checkKey b 10000 kt (.string s)).run P w = .ok () w := fun b => run_checkKey hk (by trivial) b 9999
  simp [Instr.lookup, run_underlying ht, hg, hc, Instr.findKey, run_underlying hk, hf, hz, Result.andThen]
/-- The operation. -/
theorem wp_set {P : Program} {ops : Array Oper} {rest : List Oper} {o : Oper} {a : Act} {w : World} {Q : Exit → Act → World → Prop} (hgd : o.guard = none) (t : TypeId) (m k x : Operand) (ho : o.op = .insert t m k x)
    (r : Nat) (s : ByteArray) (v : Value) (hm : a.eval m = .map (some r)) (hk : a.eval k = .string s) (hx : a.eval x = v) (kt e : TypeId) (ht : P.underlying t = some (.map kt e)) (hkt : P.underlying kt = some .string)
    (c : Nat) (es : Array MapEntry) (hmp : Mp w r es c) (hf : Instr.findNow .string (.string s) es.toList 0 = some none)
    (h : ∀ w', Mp w' r (es.push { key := .string s, val := v, born := c }) (c + 1) → w.grownBy w' (some r) → w'.heap.size = w.heap.size → wpList P ops Q rest (a.put o.dst undef) w') : wpList P ops Q (o :: rest) a w := by
  refine wpList_plain hgd fun K' hK' => ?_
  have hr : r < w.heap.size := (Array.getElem?_eq_some_iff.1 hmp).1
  have hrun := run_set_new (v := v) ht hkt hmp hf
  unfold Oper.wp execOp
  simp only [ho, hm, hk, hx, Sem.run_bind, hrun, Sem.run_pure, Result.andThen_ok]
  exact hK' _ _ (h _ (World.putObj_heap_same hr) (grownBy_putObj' w r _) (World.putObj_size))
end Go.Proofs.YtappfhjknihboaaGreatDoor


/- Words (api.Word) in memory: cloned, turned round. -/
namespace Go.Proofs.YtappfhjknihboaaGreatDoor
open Go.RowKit

structure Wd where
  nm : ByteArray
  code : Int
  now : Bool
  hid : Bool
instance : Inhabited Wd := ⟨⟨ByteArray.empty, 0, false, false⟩⟩
def encW (x : Wd) : List Value := [.string x.nm, .int .i64 x.code, .bool x.now, .bool x.hid]
def wcells (l : List Wd) : List Value := l.flatMap encW
theorem wcells_len : ∀ l : List Wd, (wcells l).length = l.length * 4
  | [] => rfl
  | x :: l => by
    have := wcells_len l
    rw [wcells] at this
    simp [wcells, encW, this]
    omega
theorem wcells_app (l r : List Wd) : wcells (l ++ r) = wcells l ++ wcells r := by simp [wcells]
theorem wcells_get : ∀ (l : List Wd) (k c : Nat) (_ : k < l.length) (_ : c < 4), (wcells l)[k * 4 + c]? = (encW l[k]!)[c]?
  | x :: l, 0, c, _, hc => by
    simp only [wcells, List.flatMap_cons, Nat.zero_mul, Nat.zero_add]
    rw [List.getElem?_append_left (by simpa [encW] using hc)]
    rfl
  | x :: l, k + 1, c, hk, hc => by
    have := wcells_get l k c (by simpa using hk) hc
    simp only [wcells, List.flatMap_cons]
    rw [List.getElem?_append_right (by simp [encW]; omega), show (k + 1) * 4 + c - (encW x).length = k * 4 + c by simp [encW]; omega]
    simpa [wcells] using this
abbrev RdW (w : World) (A : Option Addr) (c : Nat) (l : List Wd) : Prop := Rd w A l.length c 4 (wcells l)
/-- Cell by cell, behind one address. -/
def CellsW (w : World) (ad : Addr) (l : List Wd) : Prop := ∀ k c v, k < l.length → (encW l[k]!)[c]? = some v → w.cell? (ad.add (k * 4 + c)) = some v
theorem encW_lt {x : Wd} {c : Nat} {v : Value} (h : (encW x)[c]? = some v) : c < 4 := by
  have := (List.getElem?_eq_some_iff.1 h).1
  simpa [encW] using this
theorem RdW.all {w : World} {A : Option Addr} {c : Nat} {l : List Wd} (h : RdW w A c l) (h0 : 0 < l.length) : ∃ ad, A = some ad ∧ CellsW w ad l := by
  obtain ⟨ad, rfl, _⟩ := h.cell 0 _ (List.getElem?_eq_getElem (by rw [wcells_len]; omega))
  refine ⟨ad, rfl, fun k j v hk hv => ?_⟩
  obtain ⟨ad', e, hc⟩ := h.cell (k * 4 + j) v (by rw [wcells_get l k j hk (encW_lt hv)]; exact hv)
  cases e
  exact hc
theorem CellsW.below {w w' : World} {ad : Addr} {l : List Wd} (h : CellsW w ad l) (hb : Below w.heap.size w w') : CellsW w' ad l := fun k c v hk hv =>
  (hb.cell (World.block_lt_of_cell? w _ (h k c v hk hv))).trans (h k c v hk hv)
/-- One word's four. -/
theorem CellsW.four {w : World} {ad : Addr} {l : List Wd} (h : CellsW w ad l) {k : Nat} (hk : k < l.length) :
    w.cell? (ad.add (k * 4)) = some (.string l[k]!.nm) ∧ w.cell? (ad.add (k * 4 + 1)) = some (.int .i64 l[k]!.code) ∧ w.cell? (ad.add (k * 4 + 2)) = some (.bool l[k]!.now) ∧ w.cell? (ad.add (k * 4 + 3)) = some (.bool l[k]!.hid) :=
  ⟨h k 0 _ hk rfl, h k 1 _ hk rfl, h k 2 _ hk rfl, h k 3 _ hk rfl⟩

/-- The same, as a load of the whole word asks. -/
theorem CellsW.load {w : World} {ad : Addr} {l : List Wd} (h : CellsW w ad l) {k : Nat} (hk : k < l.length) :
    w.cell? (ad.add (k * 4)) = some (.string l[k]!.nm) ∧ w.cell? ⟨(ad.add (k * 4)).block, (ad.add (k * 4)).off + 1, none⟩ = some (.int .i64 l[k]!.code) ∧ w.cell? ⟨(ad.add (k * 4)).block, (ad.add (k * 4)).off + 2, none⟩ = some (.bool l[k]!.now) ∧ w.cell? ⟨(ad.add (k * 4)).block, (ad.add (k * 4)).off + 3, none⟩ = some (.bool l[k]!.hid) := by
  have e : ∀ i, i ≠ 0 → ad.add (k * 4 + i) = ⟨(ad.add (k * 4)).block, (ad.add (k * 4)).off + i, none⟩ := fun i hi => by
    by_cases hk : k = 0
    · simp [Addr.add, hi, hk]
    · simp [Addr.add, hi, show ¬ k * 4 = 0 by omega, Nat.add_assoc]
  rw [← e 1 (by decide), ← e 2 (by decide), ← e 3 (by decide)]
  exact ⟨h k 0 _ hk rfl, h k 1 _ hk rfl, h k 2 _ hk rfl, h k 3 _ hk rfl⟩

theorem infoW : (Tryz.prog.info? 47).map (fun i => (i.zero, i.size, i.bytes)) = some (some (.agg #[.string ⟨#[]⟩, .int .i64 0, .bool false, .bool false]), 4, 32) := by kernel_rfl
theorem wcells_one (l : List Wd) : ∀ u ∈ wcells l, u.oneCell' = true := by
  intro u hu
  obtain ⟨x, _, hx⟩ := List.mem_flatMap.1 hu
  simp [encW] at hx
  rcases hx with rfl | rfl | rfl | rfl <;> rfl

set_option maxHeartbeats 1000000 in
theorem CloneW_any (A : Option Addr) (c : Nat) (l : List Wd) (w : World) (hx : RdW w A c l) (hl : l.length * 32 ≤ 140737488355328) :
    Calls Tryz.prog 88 #[.slice A l.length c] w fun e w' => ∃ x, e = .returned x ∧ w'.ownsRow w.heap.size 47 4 x l.length (wcells l) ∧ Below w.heap.size w w' := by
  have q22 : ∀ (w : World) (a : Option Addr) (n c n' c' : Nat), (binOp .eql 25 (.slice a n c) (.slice none n' c')).run Tryz.prog w = .ok (.bool a.isNone) w := fun w a n c n' c' => Lib.run_eql_slice_nil w _ _ a n c n' c' Tryz.underlying25
  cases A with
  | none =>
    have h1 := hx.nil rfl
    have h2 := hx.le
    have h3 : l.length = 0 := by omega
    obtain rfl : l = [] := List.eq_nil_of_length_eq_zero h3
    subst h1
    clear hx h2 h3
    go_enter Tryz.func88, Tryz.ntmps88
    go_wp2
    go_ret
    exact ⟨_, rfl, ⟨rfl, .inl ⟨rfl, rfl⟩⟩, Below.refl _ _⟩
  | some ad =>
    have HX := Lib.hid (hx.below (below_lit w (.cells #[] 47)))
    have HO : Hid ((w.alloc (.cells #[] 47)).ownsRow w.heap.size 47 4 (.slice (some ⟨w.heap.size, 0, none⟩) 0 0) 0 []) := Lib.hid (own_empty (heap_alloc_new _ _) (Nat.le_refl _))
    have HB := Lib.hid (below_lit w (.cells #[] 47))
    clear hx
    go_enter Tryz.func88, Tryz.ntmps88
    go_wp2_with (refine wp_app (w0 := w) rfl (.tmp 5) (.tmp 6) 25 47 _ 4 32 rfl Tryz.underlying25 infoW rfl (by decide) (by decide) w.heap.size _ 0 [] rfl HO.out (some ad) l.length c (wcells l) rfl HX.out (wcells_one l) (by omega) HB.out.size HB.out ?_)
    intro v1 w1 ho hb _
    have HO2 := Lib.hid ho
    have HB2 := Lib.hid hb
    clear ho hb
    go_wp2
    go_ret
    exact ⟨_, rfl, by simpa using HO2.out, HB2.out⟩
def reverseW_ren : Go.Shelf.Ren := ⟨fun | 35 => 89 | n => n, fun | 22 => 25 | 23 => 47 | 3 => 3 | 4 => 4 | 0 => 0 | n => n, fun | n => n⟩
theorem reverseW : Go.Proofs.SlLaysE0.n35 Tryz.prog reverseW_ren := {
  mixed := by kernel_rfl
  f35 := ⟨Tryz.f89.name, by decide, Tryz.func89.trans (congrArg some (by kernel_rfl))⟩
  t0 := Tryz.underlying0
  a0 := Tryz.isAgg0
  z0 := Tryz.sizeOf0
  v0 := Tryz.zeroValue0
  t3 := Tryz.underlying3
  a3 := Tryz.isAgg3
  z3 := Tryz.sizeOf3
  v3 := Tryz.zeroValue3
  t4 := Tryz.underlying4
  a4 := Tryz.isAgg4
  z4 := Tryz.sizeOf4
  v4 := Tryz.zeroValue4
  t22 := Tryz.underlying25
  a22 := Tryz.isAgg25
  z22 := Tryz.sizeOf25
  v22 := Tryz.zeroValue25 }

theorem own_holds {w : World} {B : Nat} {x : Value} {l : List Wd} (h : w.ownsRow B 47 4 x l.length (wcells l)) (h0 : 0 < l.length) :
    ∃ g cap, x = .slice (some ⟨g, 0, none⟩) l.length cap ∧ B ≤ g ∧ Sort.HoldsK encW 4 w g 0 l.toArray := by
  obtain ⟨h1, h2⟩ := h
  rcases h2 with ⟨_, h2⟩ | ⟨g, cap, cur, rfl, hg, hh, hn, hm, hs, ht⟩
  · omega
  refine ⟨g, cap, rfl, hg, fun j hj => ?_⟩
  rw [Sort.size_flatK, List.size_toArray] at hj
  refine ⟨?_, Lib.frozen_of_heap hh _⟩
  rw [Sort.get_flatK _ _ _ _ (by simpa using hj), Lib.cell_of_heap hh]
  have h3 : cur[j]? = (wcells l)[j]? := by
    rw [← ht, List.getElem?_take_of_lt hj]
    simp
  have h4 := wcells_get l (j / 4) (j % 4) (by omega) (by omega)
  rw [show j / 4 * 4 + j % 4 = j by omega] at h4
  rw [Nat.zero_add, h3, h4, show (l.toArray[j / 4]! : Wd) = l[j / 4]! by simp]
  have h5 : j % 4 < (encW l[j / 4]!).length := by simp only [encW, List.length_cons, List.length_nil]; omega
  rw [List.getElem?_eq_getElem h5, getElem!_pos (encW l[j / 4]!) (j % 4) h5]
  rfl

theorem ReverseW_any (B : Nat) (x : Value) (l : List Wd) (w : World) (h : w.ownsRow B 47 4 x l.length (wcells l)) (hl : l.length ≤ 1000000) :
    Calls Tryz.prog 89 #[x] w fun e w' => e = .returned (.tuple #[]) ∧ (∃ A c, x = .slice A l.length c ∧ (0 < l.length → ∃ ad, A = some ad ∧ CellsW w' ad l.reverse)) ∧ Below B w w' := by
  rcases Nat.eq_zero_or_pos l.length with h0 | h0
  · obtain ⟨A, c, rfl, _⟩ := Rd.own h
    rw [h0]
    refine (AnyQ.slices_Reverse_empty reverseW A c w).mono ?_
    rintro e w' ⟨rfl, rfl⟩
    exact ⟨rfl, ⟨A, c, rfl, fun h => absurd h (by omega)⟩, Below.refl _ _⟩
  · obtain ⟨g, cap, rfl, hg, hH⟩ := own_holds h h0
    have := AnyQ.slices_Reverse reverseW 4 Tryz.isAgg47 Tryz.sizeOf47 encW (fun _ => rfl) (fun x v hv => by simp [encW] at hv; rcases hv with rfl | rfl | rfl | rfl <;> rfl) g 0 cap l.toArray w hH (by simp; omega)
    rw [List.size_toArray] at this
    refine this.mono ?_
    rintro e w' ⟨rfl, n, rfl⟩
    have hH2 := Sort.holdsK_putRowK (enc := encW) (k := 4) (Sort.ahead w n) g 0 l.toArray l.toArray.reverse (show Sort.HoldsK encW 4 (Sort.ahead w n) g 0 l.toArray from hH) (by simp)
    refine ⟨rfl, ⟨_, _, rfl, fun _ => ⟨_, rfl, fun k c v hk hv => ?_⟩⟩, Lib.below_putRow (Below.refl _ _) hg⟩
    have hk2 : k < l.length := by simpa using hk
    have := HoldsK.cells hH2 (fun _ => rfl) (i := k) (by simpa using hk2) c v (by
      rw [show (l.toArray.reverse[k]! : Wd) = l.reverse[k]! by simp]
      exact hv)
    rw [Addr.add_lit] at this ⊢
    simpa [Nat.add_assoc] using this
end Go.Proofs.YtappfhjknihboaaGreatDoor
