
/- Structs in blocks of the call's own: stored, loaded, handed back; worlds kept shut. No program in sight. -/
import Derived.Laws.ResultCell
import Derived.Laws.Tables
import Derived.Laws.Rows
import Derived.Laws.CopyRow
import Derived.Test.YticebanhccgglaaDoorKept
namespace Go.Proofs.YticebanhccgglaaDoor
open Go.RowKit

/-- Block g holds these cells. -/
def Bx (w : World) (g : Nat) (t : TypeId) (cs : List Value) : Prop := w.heap[g]? = some (.cells cs.toArray t (0, 0))
theorem Bx.lt {w : World} {g : Nat} {t : TypeId} {cs : List Value} (h : Bx w g t cs) : g < w.heap.size := (Array.getElem?_eq_some_iff.1 h).1
theorem Bx.below {w w' : World} {g : Nat} {t : TypeId} {cs : List Value} (h : Bx w g t cs) (hb : Below w.heap.size w w') : Bx w' g t cs := (hb.block g h.lt).trans h
theorem Bx.grown {w w' : World} {g k : Nat} {t : TypeId} {cs : List Value} (h : Bx w g t cs) (hg : w.grownBy w' (some k)) (hne : g ≠ k) : Bx w' g t cs := (hg.block g h.lt (fun e => hne (by injection e))).trans h
theorem Bx.alloc {w : World} {g : Nat} {t : TypeId} {cs : List Value} (h : Bx w g t cs) (o : Obj) : Bx (w.alloc o) g t cs := (heap_alloc_old w o h.lt).trans h
theorem Bx.new (w : World) (t : TypeId) (cs : List Value) (arr : Array Value) (g : Nat) (hg : w.heap.size = g) (h : arr = cs.toArray) : Bx (w.alloc (.cells arr t)) g t cs := by
  subst hg h
  exact heap_alloc_new w _
theorem Bx.cell {w : World} {g : Nat} {t : TypeId} {cs : List Value} (h : Bx w g t cs) (k : Nat) : w.cell? ⟨g, k, none⟩ = cs[k]? := by
  rw [cell_of_row w g k _ t _ h]
  simp
theorem Bx.free {w : World} {g : Nat} {t : TypeId} {cs : List Value} (h : Bx w g t cs) (k : Nat) : w.frozen? ⟨g, k, none⟩ = false := frozen_of_row w g k _ t h
theorem grown_setRow (w : World) (g : Nat) (cs : Array Value) : w.grownBy (w.setRow g cs) (some g) :=
  ⟨rfl, rfl, rfl, by simp, fun k _ hk => setRow_other w g k cs (fun e => hk (by rw [e]))⟩
theorem grown_setCell (w : World) (g k : Nat) (v : Value) : w.grownBy (w.setCell ⟨g, k, none⟩ v) (some g) :=
  ⟨rfl, rfl, rfl, by simp [World.setCell], fun j _ hj => heap_setCell_other w _ j v (fun e => hj (by rw [e]))⟩
theorem below_grown {w0 w w' : World} {B g : Nat} (h : Below B w0 w) (hB : B ≤ w.heap.size) (hg : w.grownBy w' (some g)) (hg0 : B ≤ g) : Below B w0 w' :=
  h.grown hg hB (fun k hk => by cases hk; exact hg0)
theorem below_set {w0 w : World} {B k : Nat} {v : Value} (h : Below B w0 w) : Below B w0 (w.setCell ⟨B, k, none⟩ v) := h.setCell (p := ⟨B, k, none⟩) (Nat.le_refl _) _
theorem own_grown {w w' : World} {base n size g : Nat} {e : TypeId} {v : Value} {cs : List Value} (h : w.ownsRow base e size v n cs) (hg : w.grownBy w' (some g)) (hne : v.ownBlock ≠ some g) : w'.ownsRow base e size v n cs :=
  h.kept hg (.inr hne)
theorem rd_grown {w w' : World} {A : Option Addr} {n c size g : Nat} {cs : List Value} (h : Rd w A n c size cs) (hg : w.grownBy w' (some g)) (hne : ∀ ad, A = some ad → ad.block ≠ g) : Rd w' A n c size cs :=
  ⟨h.len, h.le, h.cap, h.nil, fun j u hj => by
    obtain ⟨ad, e, hc⟩ := h.cell j u hj
    refine ⟨ad, e, hg.cell hc ?_⟩
    intro e2
    injection e2 with e2
    apply hne ad e
    rw [← e2]
    unfold Addr.add
    split <;> rfl⟩

theorem own_keep {w w' : World} {base n size k : Nat} {e : TypeId} {v : Value} {cs : List Value} (h : w.ownsRow base e size v n cs) (hg : w.grownBy w' (some k)) (hk : k < base) : w'.ownsRow base e size v n cs :=
  own_grown h hg (fun e1 => by have := (h.lt k e1).1; omega)
theorem own_rd {w : World} {base n c size : Nat} {e : TypeId} {A : Option Addr} {cs : List Value} (h : w.ownsRow base e size (.slice A n c) n cs) : Rd w A n c size cs := by
  obtain ⟨A', c', e1, hr⟩ := Rd.own h
  cases e1
  exact hr

theorem Bx.setc {w : World} {g : Nat} {t : TypeId} {cs : List Value} (h : Bx w g t cs) (k : Nat) (v : Value) : Bx (w.setCell ⟨g, k, none⟩ v) g t (cs.set k v) := by
  have := heap_setCell_same w g k cs.toArray t v h
  rw [List.setIfInBounds_toArray] at this
  exact this
/-- A struct is stored whole. -/
theorem wp_storeS {P : Program} {ops : Array Oper} {rest : List Oper} {o : Oper} {a : Act} {w : World} {Q : Exit → Act → World → Prop} (hgd : o.guard = none) (ty : TypeId) (x y : Operand) (ho : o.op = .store ty x y)
    (g : Nat) (cells : List Value) (hx : a.eval x = .pointer (some ⟨g, 0, none⟩)) (hy : a.eval y = .agg cells.toArray)
    (t : TypeId) (old : List Value) (hg : Bx w g t old) (m : Nat) (hi : (P.info? ty).map (·.size) = some m) (hm : cells.length = m)
    (hold : old.length = m) (h1 : cells.all (·.oneCell') = true)
    (h : ∀ w', Bx w' g t cells → w.grownBy w' (some g) → wpList P ops Q rest (a.put o.dst undef) w') : wpList P ops Q (o :: rest) a w :=
  wpList_store_row hgd ty x y ho g cells.toArray hx hy t old.toArray hg (by rw [hi, List.size_toArray, hm]) (by simp; omega) (by simpa using h1) (h _ (setRow_heap w g _ _ t _ hg) (grown_setRow w g _))
/-- .. and loaded. -/
theorem wp_loadS {P : Program} {ops : Array Oper} {rest : List Oper} {o : Oper} {a : Act} {w : World} {Q : Exit → Act → World → Prop} (hgd : o.guard = none) (ty : TypeId) (x : Operand) (ho : o.op = .load ty x)
    (g : Nat) (hx : a.eval x = .pointer (some ⟨g, 0, none⟩)) (t : TypeId) (cs : List Value) (d : TypeDesc) (hg : Bx w g t cs)
    (hu : P.underlying ty = some d) (hd : (match d with | .struct _ | .array _ _ => true | _ => false) = true) (m : Nat) (hi : (P.info? ty).map (·.size) = some m) (hm : cs.length = m)
    (h : wpList P ops Q rest (a.put o.dst (.agg cs.toArray)) w) : wpList P ops Q (o :: rest) a w :=
  wpList_load_row hgd ty x ho g hx t cs.toArray (0, 0) d hg hu hd (by rw [hi, List.size_toArray, hm]) h
/-- One field is stored. -/
theorem wp_storeF {P : Program} {ops : Array Oper} {rest : List Oper} {o : Oper} {a : Act} {w : World} {Q : Exit → Act → World → Prop} (hgd : o.guard = none) (ty : TypeId) (x y : Operand) (ho : o.op = .store ty x y)
    (g k : Nat) (v : Value) (hx : a.eval x = .pointer (some ⟨g, k, none⟩)) (hy : a.eval y = v) (h1 : v.oneCell' = true)
    (t : TypeId) (cs : List Value) (hg : Bx w g t cs) (m : Nat) (hm : cs.length = m) (hkm : k < m) (hi : (P.info? ty).map (·.size) = some 1)
    (h : ∀ w', Bx w' g t (cs.set k v) → w.grownBy w' (some g) → wpList P ops Q rest (a.put o.dst undef) w') : wpList P ops Q (o :: rest) a w := by
  have hk : k < cs.length := by omega
  refine wpList_plain hgd fun K' hK' => ?_
  have hb : Bx (w.setCell ⟨g, k, none⟩ v) g t (cs.set k v) := by
    have := heap_setCell_same w g k cs.toArray t v hg
    rw [List.setIfInBounds_toArray] at this
    exact this
  have hc : w.cell? ⟨g, k, none⟩ = some cs[k] := by rw [hg.cell k, List.getElem?_eq_getElem hk]
  have hrun : (Instr.storeAt ty (.pointer (some ⟨g, k, none⟩)) v).run P w = .ok () (w.setCell ⟨g, k, none⟩ v) := by
    cases hq : P.info? ty with
    | none => rw [hq] at hi; cases hi
    | some i =>
      have hs : i.size = 1 := by rw [hq] at hi; simpa using hi
      have hst := run_store P w ⟨g, k, none⟩ v .plain h1
      have hv : v.cells = #[v] := by cases v <;> first | rfl | (simp [Value.oneCell'] at h1)
      have ha : (⟨g, k, none⟩ : Addr).add 0 = ⟨g, k, none⟩ := rfl
      simp only [Instr.storeAt, Instr.sureAddr, Sem.run_bind, Sem.run_pure, Result.andThen_ok, storeVar, sizeOf, typeInfo]
      simp [hq, hs, hv, storeCells, ha, hst, hc, hg.free k]
  unfold Oper.wp execOp
  simp only [ho, hx, hy, Sem.run_bind, hrun, Sem.run_pure, Result.andThen_ok]
  exact hK' _ _ (h _ hb (grown_setCell w g k v))

/-- A struct is stored among others. -/
theorem wp_storeM {P : Program} {ops : Array Oper} {rest : List Oper} {o : Oper} {a : Act} {w : World} {Q : Exit → Act → World → Prop} (hgd : o.guard = none) (ty : TypeId) (x y : Operand) (ho : o.op = .store ty x y)
    (g k : Nat) (cells : List Value) (hx : a.eval x = .pointer (some ⟨g, k, none⟩)) (hy : a.eval y = .agg cells.toArray) (h1 : cells.all (·.oneCell') = true)
    (t : TypeId) (cs : List Value) (hg : Bx w g t cs) (m : Nat) (hm : cells.length = m) (hk : k + m ≤ cs.length) (hi : (P.info? ty).map (·.size) = some m)
    (h : ∀ w', Bx w' g t (splice cs k cells) → w.grownBy w' (some g) → wpList P ops Q rest (a.put o.dst undef) w') : wpList P ops Q (o :: rest) a w := by
  refine wpList_plain hgd fun K' hK' => ?_
  have hst := run_storeCells_at (P := P) g k t cells 0 cs.toArray w hg (by simp; omega) (fun v hv => by simpa using List.all_eq_true.1 h1 v hv)
  simp only [Nat.add_zero] at hst
  have hrun : (Instr.storeAt ty (.pointer (some ⟨g, k, none⟩)) (.agg cells.toArray)).run P w = .ok () (w.setRow g (splice cs k cells).toArray) := by
    cases hq : P.info? ty with
    | none => rw [hq] at hi; cases hi
    | some i =>
      have hs : cells.length = i.size := by rw [hq] at hi; rw [hm]; simpa using hi.symm
      simp only [Instr.storeAt, Instr.sureAddr, Sem.run_bind, Sem.run_pure, Result.andThen_ok, storeVar, sizeOf, typeInfo]
      simp [hq, hs, Value.cells, hst, splice]
  unfold Oper.wp execOp
  simp only [ho, hx, hy, Sem.run_bind, hrun, Sem.run_pure, Result.andThen_ok]
  exact hK' _ _ (h _ (setRow_heap w g _ _ t _ hg) (grown_setRow w g _))
/-- clear, of what stands behind. -/
theorem wp_clear {P : Program} {ops : Array Oper} {rest : List Oper} {o : Oper} {a : Act} {w : World} {Q : Exit → Act → World → Prop} (hgd : o.guard = none) (x : Operand) (ts e : TypeId)
    (ho : o.op = .call { callee := .builtin .clear, args := #[x], argTypes := #[ts] }) (ht : P.underlying ts = some (.slice e)) (z : Value) (hz : ∀ w, (zeroValue e).run P w = .ok z w) (k : Nat) (hzk : z.cells.size = k) (hz1 : ∀ v ∈ z.cells.toList, v.oneCell' = true)
    (g off n c : Nat) (hx : a.eval x = .slice (some ⟨g, off, none⟩) n c) (h0 : 0 < n) (t : TypeId) (cs : List Value) (hg : Bx w g t cs) (hk : off + n * k ≤ cs.length)
    (h : ∀ w' cs', Bx w' g t cs' → cs'.length = cs.length → cs'.take off = cs.take off → w.grownBy w' (some g) → wpList P ops Q rest (a.put o.dst (.tuple #[])) w') : wpList P ops Q (o :: rest) a w := by
  refine wpList_plain hgd fun K' hK' => ?_
  have hlz : (Builtin.zeroCells z.cells n).toList.length = n * k := by rw [Array.length_toList, size_zeroCells, hzk]
  have h1z : ∀ v ∈ (Builtin.zeroCells z.cells n).toList, v.oneCell' = true := by
    intro v hv
    simp only [Builtin.zeroCells, Array.toList_map, List.mem_map] at hv
    obtain ⟨i, hi, rfl⟩ := hv
    have hi2 : i < n * k := by rw [hzk] at hi; simpa using hi
    have hk0 : 0 < k := by
      rcases Nat.eq_zero_or_pos k with h | h
      · rw [h] at hi2; simp at hi2
      · exact h
    have h3 : i % z.cells.size < z.cells.size := Nat.mod_lt _ (by rw [hzk]; exact hk0)
    rw [getElem!_pos z.cells _ h3]
    exact hz1 _ (by simp)
  have hst := run_storeCells_at (P := P) g off t (Builtin.zeroCells z.cells n).toList 0 cs.toArray w hg (by simp only [hlz]; simpa using hk) h1z
  simp only [Nat.add_zero] at hst
  have hrun : (Builtin.clear_ #[ts] o.type #[.slice (some ⟨g, off, none⟩) n c]).run P w = .ok (.tuple #[]) (w.setRow g (splice cs off (Builtin.zeroCells z.cells n).toList).toArray) := by
    obtain ⟨m, rfl⟩ : ∃ m, n = m + 1 := ⟨n - 1, by omega⟩
    simp [Builtin.clear_, run_underlying ht, hz, hst, splice, Result.andThen]
  unfold Oper.wp
  simp [execOp, ho, resolve, invoke, builtin, hx, hrun, Result.andThen]
  refine hK' _ _ (h _ _ (setRow_heap w g _ _ t _ hg) ?_ ?_ (grown_setRow w g _))
  · rw [length_splice _ _ _ (by rw [hlz]; exact hk)]
  · simp only [splice]
    rw [List.take_append_of_le_length (by simp; omega), List.take_take, Nat.min_self]

/-- Two results, the first one a struct in a block. -/
theorem results_S {P : Program} {fn : Func} {p u : Tmp} {ty : TypeId} (h : fn.results = #[.cell p ty, .tmp u]) (tmps : Array Value) (w : World) (g : Nat) (t : TypeId) (cs : List Value) (d : TypeDesc)
    (hp : tmps.getD p undef = .pointer (some ⟨g, 0, none⟩)) (hg : Bx w g t cs)
    (hu : P.underlying ty = some d) (hd : (match d with | .struct _ | .array _ _ => true | _ => false) = true) (m : Nat) (hi : (P.info? ty).map (·.size) = some m) (hm : cs.length = m) (r : Value) (hr : tmps.getD u undef = r) :
    (results fn tmps).run P w = .ok (.tuple #[.agg cs.toArray, r]) w := by
  rw [results_cell_tmp h, hp, hr]
  simp [asAddr, run_loadVar_row w g t ty cs.toArray (0, 0) d hg hu hd (by rw [hi, List.size_toArray, hm]), Result.andThen]
end Go.Proofs.YticebanhccgglaaDoor
