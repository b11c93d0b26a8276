
/- Ranges over functions: what a round carries out goes as everywhere. No program in sight. -/
import Derived.RangeFuncRecord
import Derived.RangeFuncCalls
import Derived.RangeFuncLeaves
import Derived.OrdersIn
import Derived.WalkKit
import Derived.OwnWalkIn
import Derived.TacticsIn
import Derived.BigFrameIn
import Derived.TacticsInMore
import Derived.LoopNIn
import Derived.LoopIn
import Derived.Deep.RegionLaw
import Derived.Test.YticebanhccgglaaDoorBox
namespace Go.Proofs.YticebanhccgglaaDoor
open Go.RowKit

theorem oper_in {n l : Nat} {P : Program} {o : Oper} {a : Act} {w : World} {next : Act → World → Prop} {Q : Exit → Act → World → Prop} (hd : ∀ c, o.op ≠ .defer c) (h : Oper.wp P o a w next Q) : Oper.wpIn (Fence.wide.inRound l) n P o a w next Q := by
  refine ⟨fun _ _ => trivial, ?_⟩
  rw [Oper.semAt_eq _ _ _ hd]
  unfold Oper.wp at h
  generalize (execOp a.eval o).run P w = r at h ⊢
  cases r with
  | halt x w' => cases x <;> first | exact h | exact h.elim
  | ok x w' =>
    cases x
    case value v => exact h
    case skip => exact h
    case defer d => exact h
    case enter f args => exact ⟨fun h => by simp [Fence.wide] at h, CallsIn.inRound l (callsIn_wide.2 h)⟩
    case row row args =>
      refine ⟨fun h => by simp [Fence.wide] at h, fun c cs _ => ?_⟩
      obtain ⟨v, w2, hr, hs⟩ := h c cs
      exact ⟨v, w2, hr, stepsIn_wide.2 hs⟩
    all_goals exact h.elim

def noDefer (ops : Array Oper) : Bool := ops.all fun o => match o.op with | .defer _ => false | _ => true
theorem noDefer_at {ops : Array Oper} (h : noDefer ops = true) {i : Nat} {o : Oper} (ho : ops[i]? = some o) : ∀ c, o.op ≠ .defer c := by
  intro c hc
  obtain ⟨hi, e⟩ := Array.getElem?_eq_some_iff.1 ho
  have := Array.all_eq_true.1 h i hi
  rw [e, hc] at this
  cases this

theorem wpOp_in {n l : Nat} {P : Program} {ops : Array Oper} {Q : Exit → Act → World → Prop} (hd : noDefer ops = true) (hQ : ¬ LetsOut Q) {i : Nat} {K K' : Act → World → Prop} (hK : ∀ a w, K a w → K' a w) {a : Act} {w : World} (h : wpOp P ops Q i K a w) : wpOpIn (Fence.wide.inRound l) n P ops Q i K' a w := by
  unfold wpOp at h
  unfold wpOpIn
  cases ho : ops[i]? with
  | none =>
    rw [ho] at h
    exact hK _ _ h
  | some o =>
    rw [ho] at h
    simp only at h ⊢
    split
    · rename_i hw
      rw [if_pos hw] at h
      rcases h with h | ⟨_, h⟩
      · exact Oper.wpIn_mono hK (oper_in (noDefer_at hd ho) h)
      · exact absurd h hQ
    · rename_i hw
      rw [if_neg hw] at h
      exact ⟨fun _ _ => trivial, hK _ _ h⟩
theorem wpAny_in {n l : Nat} {P : Program} {md : Region.Mode} {ops : Array Oper} {Q : Exit → Act → World → Prop} (hd : noDefer ops = true) (hQ : ¬ LetsOut Q) : ∀ (fuel : Nat) (listed : Array Bool) (a : Act) (w : World), wpAny P md ops Q fuel listed a w → wpAnyIn (Fence.wide.inRound l) n P md ops Q fuel listed a w
  | 0, _, _, _, h => h
  | fuel + 1, _, _, _, h => ⟨h.1, fun i hi => wpOp_in hd hQ (fun a' w' h' => wpAny_in hd hQ fuel _ a' w' h') (h.2 i hi)⟩
/-- A region that draws its order, in a round. -/
theorem wpIn_region_round {n l id : Nat} {P : Program} {ops : Array Oper} {Q : Exit → Act → World → Prop} {a : Act} {w : World} (hm : P.follows .mixedOrders = true) (hd : noDefer ops = true) (hQ : ¬ LetsOut Q)
    (h : wpAny P .any ops Q ops.size (Array.replicate ops.size false) a w.drew) : (Code.region id ops true).wpIn (Fence.wide.inRound l) n P Q a w :=
  wpIn_region_any hm (wpAny_in hd hQ _ _ _ _ h)
theorem heap_grown {w w' : World} {k j : Nat} {o : Obj} (h : w.heap[k]? = some o) (hg : w.grownBy w' (some j)) (hne : k ≠ j) : w'.heap[k]? = some o :=
  (hg.block k (Array.getElem?_eq_some_iff.1 h).1 (fun e => hne (by injection e))).trans h
theorem Bx.keepOwn {w w' : World} {g base n size : Nat} {t e : TypeId} {cs xs : List Value} {v : Value} (h : Bx w g t cs) (hg : w.grownBy w' v.ownBlock) (ho : w.ownsRow base e size v n xs) (hlt : g < base) : Bx w' g t cs :=
  (hg.block g h.lt (fun e1 => by have := (ho.lt g e1.symm).1; omega)).trans h
theorem own_far {w : World} {base n size : Nat} {e : TypeId} {v : Value} {xs : List Value} (ho : w.ownsRow base e size v n xs) : v.ownBlock ≠ some w.heap.size := fun e1 => by
  have := (ho.lt _ e1).2
  omega
theorem rd_keepOwn {w w' : World} {v : Value} {n c size b : Nat} {cs : List Value} (h : Rd w (some ⟨b, 0, none⟩) n c size cs) (hg : w.grownBy w' v.ownBlock) (hne : v.ownBlock ≠ some b) : Rd w' (some ⟨b, 0, none⟩) n c size cs :=
  ⟨h.len, h.le, h.cap, h.nil, fun j u hj => by
    obtain ⟨ad, e, hc⟩ := h.cell j u hj
    injection e with e
    subst e
    refine ⟨_, rfl, hg.cell hc ?_⟩
    rw [Addr.add_lit]
    exact fun e2 => hne e2.symm⟩
theorem Below.heapAt {B k : Nat} {w w' : World} {o : Obj} (h : Below B w w') (hk : k < B) (hh : w.heap[k]? = some o) : w'.heap[k]? = some o := (h.block k hk).trans hh
end Go.Proofs.YticebanhccgglaaDoor
