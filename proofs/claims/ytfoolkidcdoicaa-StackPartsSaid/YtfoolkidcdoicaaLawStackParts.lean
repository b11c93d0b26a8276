/- The law StackParts holds: whatever the input, it returns true, and each argument reads as it did. Conditions: none. -/
import Derived.Test.YtfoolkidcdoicaaRows
import Derived.Test.YtfoolkidcdoicaaLaws04d
import Derived.WalkKit
import Derived.ProofKit
import Derived.OpenShut
import Derived.ShutString
import Derived.ChangeOld
import Derived.Below
import Derived.SizedLaws
namespace Go.Proofs.Ytfoolkidcdoicaa.stackParts
open Go.ChangeShapes Go.WideShapes Go.ChangeAt Go.RowKit
open Go.ChangeMaps (open_string shut_string)
theorem own : ownKnob Try.prog.godebug = none := by kernel_rfl
theorem laidOut : laidOutB Try.prog = true := by kernel_rfl
theorem two_of : ∀ (l : List Value) (_ : (⟨l⟩ : Array Value).size = 2), ∃ x y, l = [x, y]
  | [x, y], _ => ⟨x, y, rfl⟩
set_option maxRecDepth 100000 in
theorem lifted (os : Os) (started : os.Started) (H : Type) (enc : TypeId × Value → H) :
    ReturnsInHanded {} Try.checked os 7 .any (Rows.stackPartsSpec.pre6 enc Try.prog Try.f7 Rows.stackPartsRow.domain false) (Rows.stackPartsSpec.post enc Try.prog Try.f7 false true false false) := by
  refine returnsInHanded_of_change_sized (C := Try.checked) own started (by kernel_rfl) Try.func7
    (ChangeSpec.witness6 (enc := enc) (C := Try.checked) false ⟨#[], #[.slice none 0 0, .agg #[.int .u8 0, .int .u8 0]], []⟩ 8 (by kernel_rfl) (by kernel_rfl) (by kernel_rfl) (by kernel_rfl)) ?_
  intro W base args ds gs before hval0 hW hcnd hsz0 _
  have hval : ∀ (j : Nat) t v, Try.f7.params[j]? = some t → args[j]? = some v → Value.okWide Try.prog W .any base t v := hval0
  have hW' := hW
  obtain ⟨p, q, hA0, hV, rfl, hfz, hnd⟩ := hW
  have hA : DataW.TrodAll enc Try.prog W 0 (fun _ => true) true Try.f7.params.toList args.toList ds p := hA0
  rw [Try.params7] at hA hval
  obtain ⟨v0, vs0, d0, ds0, p0, q0, hargs, rfl, rfl, h0, r0⟩ := trodAll_cons hA
  obtain ⟨v1, vs1, d1, ds1, p1, q1, rfl, rfl, rfl, h1, r1⟩ := trodAll_cons r0
  obtain ⟨rfl, rfl, rfl⟩ := trodAll_nil r1
  obtain rfl : args = #[v0, v1] := by cases args; simp_all
  obtain ⟨rfl, rfl⟩ := trodVars_none hV
  obtain ⟨a0, n0, c0, rfl⟩ := okWide_slice Try.underlying22 (hval 0 22 v0 rfl rfl)
  have k0 := h0
  have lt0 : ∀ x ∈ p0, x.block < W.heap.size := by obtain ⟨m, hm⟩ := k0; exact DataW.trod_lt m _ _ _ hm
  obtain ⟨l0, rfl, hr0, hw0⟩ : ∃ xs : List Int, n0 = xs.length ∧ RdI W .i64 a0 c0 xs ∧ ∀ y ∈ xs, (Lit.int .i64 y).wf = true := by
    obtain ⟨fuel, hf⟩ := h0
    rcases open_ints Try.underlying22 Try.underlying3 (by kernel_rfl) hf with ⟨hcs, _⟩ | ⟨x, l, c, zs, hcs, _, hl, hm, hz, _, hcell, hwz⟩
    · simp [Value.cells] at hcs
      obtain ⟨rfl, rfl, rfl⟩ := hcs
      exact RdI.given (zs := []) (.inl ⟨rfl, rfl, rfl, rfl⟩)
    · simp [Value.cells] at hcs
      obtain ⟨rfl, rfl, rfl⟩ := hcs
      exact RdI.given (.inr ⟨_, rfl, hl, hm, by simpa using hz, hcell, hwz⟩)
  have k1 := h1
  have lt1 : ∀ x ∈ p1, x.block < W.heap.size := by obtain ⟨m, hm⟩ := k1; exact DataW.trod_lt m _ _ _ hm
  obtain ⟨⟨L1⟩, rfl, hsz1⟩ : ∃ cs : Array Value, v1 = .agg cs ∧ cs.size = 2 := by
    have hv := (hval 1 36 v1 rfl rfl)
    simp only [Value.okWide, Try.underlying36] at hv
    have hc : Try.prog.cellsOf 36 = 2 := by kernel_rfl
    obtain ⟨cs, e1, e2, _⟩ := hv
    rw [hc] at e2
    exact ⟨cs, e1, e2⟩
  obtain ⟨z1, y1, rfl⟩ : ∃ x y, L1 = [x, y] := two_of L1 hsz1
  obtain ⟨fu1, hf1⟩ := h1
  obtain ⟨xs1, m1, _, _, _, hn1, he1⟩ := DataW.trod_array Try.underlying36 hf1
  rw [show Try.prog.cellsOf 5 = 1 by kernel_rfl] at he1
  obtain ⟨a1_0, e1_0, _, w1_0⟩ := DataW.trod_int Try.underlying5 ((he1 0 (by omega)).trans (List.getElem?_eq_getElem (by omega)))
  simp [Value.cells] at e1_0
  subst e1_0
  obtain ⟨a1_1, e1_1, _, w1_1⟩ := DataW.trod_int Try.underlying5 ((he1 1 (by omega)).trans (List.getElem?_eq_getElem (by omega)))
  simp [Value.cells] at e1_1
  subst e1_1
  clear hA0 hval0 hsz0
  refine (StackParts_int a0 c0 a1_0 a1_1 l0 W hr0 w1_0 w1_1).mono fun e W' ⟨he, bel⟩ => ?_
  subst he
  exact ⟨_, rfl, _, _, _, [], _, [], hW', trodAll_mk1 (shut_bool Try.underlying4 _), (trodAll_cons_mk (Below.trod laidOut (by kernel_rfl) (of_decide_eq_true (by kernel_rfl)) k0 bel lt0) (trodAll_cons_mk (Below.trod laidOut (by kernel_rfl) (of_decide_eq_true (by kernel_rfl)) k1 bel lt1) trodAll_mk0)), rfl, bel.frame _, fun h => by cases h⟩
theorem over : Rows.stackPartsRow.holds Try.pinned (OpenSpec.ofChange Rows.stackPartsSpec) :=
  OpenClaim.holds_of_wide 7 Try.f7 rfl rfl rfl rfl rfl rfl rfl ⟨rfl, rfl, rfl, rfl, rfl⟩ rfl rfl rfl rfl rfl (by kernel_rfl) Try.func7 (by kernel_rfl)
    (of_decide_eq_true (by kernel_rfl)) (by unfold Func.isWrapper; first | (rw [if_pos (by decide +kernel)]; kernel_rfl) | (rw [if_neg (by decide +kernel)]; exact ⟨rfl, rfl⟩))
    (fun os started H enc _ => lifted os started H enc)
theorem proved : Rows.StackPartsSaid := over
#print axioms proved
end Go.Proofs.Ytfoolkidcdoicaa.stackParts
namespace Go.Proofs.Ytfoolkidcdoicaa
/-- The row, under a short name, for the claim. -/
theorem stackParts_holds : Rows.StackPartsSaid := stackParts.proved
end Go.Proofs.Ytfoolkidcdoicaa

