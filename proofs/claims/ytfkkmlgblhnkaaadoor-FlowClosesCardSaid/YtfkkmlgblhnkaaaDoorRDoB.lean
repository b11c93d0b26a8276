
/- Small things for nostosref11.Do. -/
import Derived.Test.YtfkkmlgblhnkaaaDoorPlainR11
import Derived.Test.YtfkkmlgblhnkaaaDoorRefH11
import Derived.Test.YtfkkmlgblhnkaaaDoorMA
import Derived.Deep.RegionHeldLaw
namespace Go.Proofs.YtfkkmlgblhnkaaaDoor
open Go.RowKit

set_option maxRecDepth 100000 in
theorem sl_h64 (A : Option Addr) (n c j : Nat) (w : World) (h : j ≤ c) : (Instr.sliceAt 23 (.slice A n c) none (some (.int .i64 j)) none).run Tryd.prog w = .ok (.slice A j c) w := by
  have e2 : Tryd.prog.elem 23 = 3 := by kernel_rfl
  have ht : Tryd.prog.underlying 23 = some (.slice (Tryd.prog.elem 23)) := by rw [e2]; exact Tryd.underlying23
  rw [run_sliceAt_slice _ _ _ _ _ _ ht, run_slice_h _ _ _ _ _ ht .i64 j (by omega) (by omega), e2, Tryd.sizeOf3 w]
  simp only [Result.andThen, sliced, Int.toNat_natCast, Nat.zero_mul, Nat.sub_zero]
  congr 2
  cases A <;> simp [Addr.add]
theorem own_ne {a b n c : Nat} (h : a ≠ b) : (Value.slice (some ⟨a, 0, none⟩) n c).ownBlock ≠ some b := by
  intro e
  injection e with e
  exact h e
theorem rd_grownO {w w' : World} {g n c size : Nat} {cs : List Value} {row : Option Nat} (h : Rd w (some ⟨g, 0, none⟩) n c size cs) (hg : w.grownBy w' row) (hr : row ≠ some g) : Rd w' (some ⟨g, 0, none⟩) n c size cs :=
  ⟨h.len, h.le, h.cap, h.nil, fun j u hj => by
    obtain ⟨ad, e, hc⟩ := h.cell j u hj
    cases e
    refine ⟨_, rfl, ?_⟩
    rw [Addr.add_lit] at hc ⊢
    have hlt := World.block_lt_of_cell? w _ hc
    exact (World.cell?_of_block (w := w) (hg.block g hlt (fun e => hr e.symm))).trans hc⟩
theorem own_one {w : World} {base n size : Nat} {e : TypeId} {v : Value} {cs : List Value} (h : w.ownsRow base e size v n cs) : v.oneCell' = true := by
  rcases h.2 with ⟨rfl, _⟩ | ⟨g, cap, cur, rfl, _⟩ <;> rfl
theorem Res.withCtl {B : Nat} {q q' : Ad} {s s' : Ps} {w' : World} (h : Res B q s w' q' s') {A : Option Addr} {c : Nat} {m : List Int} (hr : RdI w' .i64 A c m) (ha : 0 < m.length → ∀ ad, A = some ad → B ≤ ad.block) : Res B q s w' { q' with c := A, cc := c } { s' with ctl := m } :=
  ⟨h.rd.withCtl hr, fun S hS => by have := h.lies S hS; exact ⟨this.mem, this.data, this.ret, fun h0 ad e => .inr (ha h0 ad e), this.words, this.spots, this.out⟩⟩
/-- One field is stored, as a step of a region that draws its order. -/
theorem step_storeF {P : Program} {ops : Array Oper} {o : Oper} {a : Act} {w : World} {K : Act → World → Prop} {Q : Exit → Act → World → Prop} {E : Prop} (hgd : o.guard = none) (ty : TypeId) (x y : Operand) (ho : o.op = .store ty x y)
    (g k : Nat) (v : Value) (hx : a.eval x = .pointer (some ⟨g, k, none⟩)) (hy : a.eval y = v) (h1 : v.oneCell' = true)
    (t : TypeId) (cs : List Value) (hg : Bx w g t cs) (m : Nat) (hm : cs.length = m) (hkm : k < m) (hi : (P.info? ty).map (·.size) = some 1)
    (h : ∀ w', Bx w' g t (cs.set k v) → w.grownBy w' (some g) → K (a.put o.dst undef) w') : if Region.wanted o (yielded ops a.tmps) = true then Oper.wp P o a w K Q else E := by
  have hw : Region.wanted o (yielded ops a.tmps) = true := by simp [Region.wanted, hgd]
  rw [if_pos hw]
  have hk : k < cs.length := by omega
  have hb : Bx (w.setCell ⟨g, k, none⟩ v) g t (cs.set k v) := hg.setc k v
  have hc : w.cell? ⟨g, k, none⟩ = some cs[k] := by rw [hg.cell k, List.getElem?_eq_getElem hk]
  have hrun : (Instr.storeAt ty (.pointer (some ⟨g, k, none⟩)) v).run P w = .ok () (w.setCell ⟨g, k, none⟩ v) := by
    cases hq : P.info? ty with
    | none => rw [hq] at hi; cases hi
    | some i =>
      have hs : i.size = 1 := by rw [hq] at hi; simpa using hi
      have hst := run_store P w ⟨g, k, none⟩ v .plain h1
      have hv : v.cells = #[v] := by cases v <;> first | rfl | (simp [Value.oneCell'] at h1)
      have ha : (⟨g, k, none⟩ : Addr).add 0 = ⟨g, k, none⟩ := rfl
      simp only [Instr.storeAt, Instr.sureAddr, Sem.run_bind, Sem.run_pure, Result.andThen_ok, storeVar, sizeOf, typeInfo]
      simp [hq, hs, hv, storeCells, ha, hst, hc, hg.free k]
  unfold Oper.wp execOp
  simp only [ho, hx, hy, Sem.run_bind, hrun, Sem.run_pure, Result.andThen_ok]
  exact h _ hb (grown_setCell w g k v)
end Go.Proofs.YtfkkmlgblhnkaaaDoor
