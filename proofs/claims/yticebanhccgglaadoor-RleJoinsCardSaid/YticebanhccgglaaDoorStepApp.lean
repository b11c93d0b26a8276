
/- append to a row of the call's own, as a step of a region that draws its order. -/
import Derived.Test.YticebanhccgglaaDoorBase
import Derived.Lib.AppendZeros
namespace Go.Proofs.YticebanhccgglaaDoor
open Go.RowKit

theorem step_app {P : Program} {ops : Array Oper} {o : Oper} {a : Act} {w : World} {K : Act → World → Prop} {Q : Exit → Act → World → Prop} {E : Prop} {w0 : World} (hg : o.guard = none) (s x : Operand) (t e : TypeId) (z : Value) (size bytes : Nat)
    (ho : o.op = .call { callee := .builtin .append, args := #[s, x], argTypes := #[t, t] }) (ht : P.underlying t = some (.slice e))
    (hinfo : (P.info? e).map (fun i => (i.zero, i.size, i.bytes)) = some (some z, size, bytes)) (hzs : z.cells.size = size) (hsz : 0 < size) (hb0 : 0 < bytes)
    (B : Nat) (v : Value) (n : Nat) (xs : List Value) (hs : a.eval s = v) (hown : w.ownsRow B e size v n xs)
    (A : Option Addr) (m c : Nat) (news : List Value) (hx : a.eval x = .slice A m c) (hrd : Rd w A m c size news) (h1 : ∀ u ∈ news, u.oneCell' = true)
    (hbytes : (n + m) * bytes ≤ 140737488355328) (hB : B ≤ w.heap.size) (hbel : Below B w0 w)
    (h : ∀ v' w', w'.ownsRow B e size v' (n + m) (xs ++ news) → Below B w0 w' → w.grownBy w' v.ownBlock → K (a.put o.dst v') w') :
    if Region.wanted o (yielded ops a.tmps) = true then Oper.wp P o a w K Q else E := by
  have hw : Region.wanted o (yielded ops a.tmps) = true := by simp [Region.wanted, hg]
  rw [if_pos hw]
  obtain ⟨i0, hi, hzz⟩ := Option.map_eq_some_iff.1 hinfo
  simp only [Prod.mk.injEq] at hzz
  obtain ⟨hz0, hz1, hz2⟩ := hzz
  have hnm : n + m ≤ 140737488355328 := Nat.le_trans (Nat.le_mul_of_pos_right _ hb0) hbytes
  cases A with
  | none =>
    obtain rfl := hrd.nil rfl
    obtain rfl : m = 0 := by have := hrd.le; omega
    obtain rfl : news = [] := List.eq_nil_of_length_eq_zero (by simpa using hrd.len)
    have hrun := run_append_owned_none (P := P) (w := w) B t o.type e i0 size ht hi v n xs hown
    exact Lib.wp_append_run w s x t t ho v (.slice none 0 0) hs hx v w hrun (h v w (by simpa using hown) hbel ⟨rfl, rfl, rfl, Nat.le_refl _, fun _ _ _ => rfl⟩)
  | some ad =>
    refine wp_append_own w s x t ho B e i0 z size bytes ht hi hz0 hz1 hz2 hzs hsz v n xs hs hown ad m c news hx hrd.len (fun j u hj => ?_) h1 (by simp only [maxLen]; omega) hbytes hB ?_
    · obtain ⟨ad', e1, hc⟩ := hrd.cell j u hj
      cases e1
      exact hc
    · intro v' w' ho' hg _
      exact h v' w' ho' (hbel.grown hg hB fun k hk => (by
        rcases hown.2 with ⟨rfl, _⟩ | ⟨g, cap, cur, rfl, hb, _⟩
        · simp [Value.ownBlock] at hk
        · have : g = k := by simpa [Value.ownBlock] using hk
          omega)) hg
end Go.Proofs.YticebanhccgglaaDoor
