/-  -/
import Derived.Test.YtappfhjknihboaaGreatDoorMJ

/- Regions that draw their order: those that store into one block of the call's own, or into none. No program in sight. -/
namespace Go.Proofs.YtappfhjknihboaaGreatDoor
open Go.RowKit

theorem grown_of_below' {w w' : World} {g : Nat} (hb : Below w.heap.size w w') : w.grownBy w' (some g) := ⟨hb.os, hb.tape, hb.output, hb.size, fun k hk _ => hb.block k hk⟩
section
variable {P : Program} {l : List Oper} {Q : Exit → Act → World → Prop} {a0 : Act}
/-- No store. -/
theorem wp_region_below {id : Nat} {W : World} (fs : List (Value → World → Prop)) (deps : Nat → List Nat) (ds : List (Option Tmp)) (hds : l.map (·.dst) = ds)
    (hm : P.follows .mixedOrders = true) (hpl : plainB l.toArray a0.tmps.size = true) (hdp : waitsB l.toArray deps = true)
    (hkeep : ∀ i, i < l.length → ∀ v w w', (fs.getD i fun _ _ => True) v w → Below w.heap.size w w' → (fs.getD i fun _ _ => True) v w')
    (hop : Hops (fun i o => ∀ a w, Below W.heap.size W w → (∀ j ∈ deps i, ∃ v, (∀ k, dstOf l.toArray j = some k → a.eval (.tmp k) = v) ∧ (fs.getD j fun _ _ => True) v w) →
      (∀ k, (∀ j, j < l.length → dstOf l.toArray j ≠ some k) → a.eval (.tmp k) = a0.eval (.tmp k)) →
      o.wp P a w (fun a' w' => ∃ v, a' = a.put o.dst v ∧ Below w.heap.size w w' ∧ (fs.getD i fun _ _ => True) v w') Q) 0 l)
    (hfin : ∀ V w, Below W.heap.size W w → (∀ i, i < l.length → (fs.getD i fun _ _ => True) (V i) w) → Q .normal (putD V 0 ds a0) w) :
    (Code.region id l.toArray true).wp P Q a0 W := by
  have hg : ∀ i : Nat, ((fs.map fun F => fun (_ : Unit) => F).getD i fun _ _ _ => True) () = (fs.getD i fun _ _ => True) := by
    intro i
    simp only [List.getD_eq_getElem?_getD, List.getElem?_map]
    cases fs[i]? <;> rfl
  refine wp_region_list (Γ := Unit) (J := fun _ w => Below W.heap.size W w) (E := fun _ w _ w' => Below w.heap.size w w') (U := fun _ _ => True) (fs.map fun F => fun _ => F) deps ds hds hm hpl hdp () (fun _ => trivial) (Below.refl _ _).drew (fun γ w γ' w' hj he => below_two hj he) ?_ ?_ ?_
  · intro i hi γ v w γ' w' _ h he
    rw [hg] at h ⊢
    exact hkeep i hi v w w' h he
  · have := hop
    clear hop
    revert this
    generalize 0 = n
    suffices h : ∀ (m : List Oper) (n : Nat), Hops (fun i o => ∀ a w, Below W.heap.size W w → (∀ j ∈ deps i, ∃ v, (∀ k, dstOf l.toArray j = some k → a.eval (.tmp k) = v) ∧ (fs.getD j fun _ _ => True) v w) →
      (∀ k, (∀ j, j < l.length → dstOf l.toArray j ≠ some k) → a.eval (.tmp k) = a0.eval (.tmp k)) →
      o.wp P a w (fun a' w' => ∃ v, a' = a.put o.dst v ∧ Below w.heap.size w w' ∧ (fs.getD i fun _ _ => True) v w') Q) n m →
      Hops (fun i o => ∀ a (γ : Unit) w, Below W.heap.size W w → True → (∀ j ∈ deps i, ∃ v, (∀ k, dstOf l.toArray j = some k → a.eval (.tmp k) = v) ∧ ((fs.map fun F => fun _ => F).getD j fun _ _ _ => True) γ v w) →
      (∀ k, (∀ j, j < l.length → dstOf l.toArray j ≠ some k) → a.eval (.tmp k) = a0.eval (.tmp k)) →
      o.wp P a w (fun a' w' => ∃ v, a' = a.put o.dst v ∧ Did (fun _ w _ w' => Below w.heap.size w w') (fun _ _ => True) γ w i v w' ((fs.map fun F => fun _ => F).getD i fun _ _ _ => True)) Q) n m from h l n
    intro m
    induction m with
    | nil => intro n _; trivial
    | cons o m ih =>
      intro n h
      refine ⟨?_, ih _ h.2⟩
      intro a γ w hj _ hd hf
      refine Oper.wp_mono ?_ (h.1 a w hj (fun j hjj => by obtain ⟨v, h1, h2⟩ := hd j hjj; rw [hg] at h2; exact ⟨v, h1, h2⟩) hf)
      rintro a' w' ⟨v, ha, hb, hF⟩
      exact ⟨v, ha, (), hb, fun _ _ h => h, by rw [hg]; exact hF⟩
  · intro V γ w hj h
    exact hfin V w hj (fun i hi => by have := h i hi; rw [hg] at this; exact this)

/-- One store, of operation k, into block b; behind it S holds. -/
theorem wp_region_oneS {id : Nat} {W : World} (b : Nat) (S : World → Prop) (hS : ∀ w w', S w → Below w.heap.size w w' → S w') (k : Nat) (fs : List (Value → World → Prop)) (deps : Nat → List Nat) (ds : List (Option Tmp)) (hds : l.map (·.dst) = ds)
    (hm : P.follows .mixedOrders = true) (hpl : plainB l.toArray a0.tmps.size = true) (hdp : waitsB l.toArray deps = true) (hk : k < l.length) (hfl : fs.length = l.length)
    (hkeep : ∀ i, i < l.length → ∀ v w w', (fs.getD i fun _ _ => True) v w → w.grownBy w' (some b) → (fs.getD i fun _ _ => True) v w') 
    (hop : Hops (fun i o => ∀ a w, W.grownBy w (some b) → (Below W.heap.size W w ∨ i ≠ k ∧ S w) → (∀ j ∈ deps i, ∃ v, (∀ k, dstOf l.toArray j = some k → a.eval (.tmp k) = v) ∧ (fs.getD j fun _ _ => True) v w) →
      (∀ k, (∀ j, j < l.length → dstOf l.toArray j ≠ some k) → a.eval (.tmp k) = a0.eval (.tmp k)) →
      o.wp P a w (fun a' w' => ∃ v, a' = a.put o.dst v ∧ (Below w.heap.size w w' ∧ i ≠ k ∨ i = k ∧ w.grownBy w' (some b) ∧ S w') ∧ (fs.getD i fun _ _ => True) v w') Q) 0 l)
    (hfin : ∀ V w, W.grownBy w (some b) → S w → (∀ i, i < l.length → (fs.getD i fun _ _ => True) (V i) w) → Q .normal (putD V 0 ds a0) w) :
    (Code.region id l.toArray true).wp P Q a0 W := by
  let gs : List (Bool → Value → World → Prop) := (List.range l.length).map fun i => fun γ v w => (i = k → γ = true) ∧ (fs.getD i fun _ _ => True) v w
  have hgs : gs = (List.range l.length).map fun i => fun γ v w => (i = k → γ = true) ∧ (fs.getD i fun _ _ => True) v w := rfl
  have hg : ∀ i, i < l.length → ∀ γ v w, (gs.getD i fun _ _ _ => True) γ v w ↔ ((i = k → γ = true) ∧ (fs.getD i fun _ _ => True) v w) := by
    intro i hi γ v w
    rw [hgs]
    simp only [List.getD_eq_getElem?_getD, List.getElem?_map, List.getElem?_range hi, Option.map_some, Option.getD_some]
  have hgo : ∀ i, ¬ i < l.length → ∀ γ v w, (gs.getD i fun _ _ _ => True) γ v w := by
    intro i hi γ v w
    rw [hgs]
    simp only [List.getD_eq_getElem?_getD, List.getElem?_map]
    rw [List.getElem?_eq_none (by simpa using hi)]
    trivial
  clear_value gs
  refine wp_region_list (Γ := Bool) (J := fun γ w => W.grownBy w (some b) ∧ (γ = false → Below W.heap.size W w) ∧ (γ = true → S w))
    (E := fun γ w γ' w' => w.grownBy w' (some b) ∧ (γ = true → γ' = true) ∧ (γ' = false → Below w.heap.size w w') ∧ (γ' = true → S w')) (U := fun i γ => i = k → γ = false) gs deps ds hds hm hpl hdp false (fun _ _ => rfl)
    ⟨grown_of_below' (Below.refl _ _).drew, fun _ => (Below.refl _ _).drew, fun h => by cases h⟩ ?_ ?_ ?_ ?_
  · rintro γ w γ' w' ⟨h1, h2, h3⟩ ⟨e1, e2, e3, e4⟩
    refine ⟨h1.trans e1, fun h => ?_, e4⟩
    have hγ : γ = false := by
      cases hc : γ with
      | false => rfl
      | true => rw [e2 hc] at h; cases h
    exact below_two (h2 hγ) (e3 h)
  · intro i hi γ v w γ' w' _ h he
    rw [hg i hi] at h ⊢
    exact ⟨fun e => he.2.1 (h.1 e), hkeep i hi v w w' h.2 he.1⟩
  · clear hfin hkeep
    suffices h : ∀ (m : List Oper) (n : Nat), n + m.length = l.length → Hops (fun i o => ∀ a w, W.grownBy w (some b) → (Below W.heap.size W w ∨ i ≠ k ∧ S w) → (∀ j ∈ deps i, ∃ v, (∀ k, dstOf l.toArray j = some k → a.eval (.tmp k) = v) ∧ (fs.getD j fun _ _ => True) v w) →
      (∀ k, (∀ j, j < l.length → dstOf l.toArray j ≠ some k) → a.eval (.tmp k) = a0.eval (.tmp k)) →
      o.wp P a w (fun a' w' => ∃ v, a' = a.put o.dst v ∧ (Below w.heap.size w w' ∧ i ≠ k ∨ i = k ∧ w.grownBy w' (some b) ∧ S w') ∧ (fs.getD i fun _ _ => True) v w') Q) n m →
      Hops (fun i o => ∀ a (γ : Bool) w, (W.grownBy w (some b) ∧ (γ = false → Below W.heap.size W w) ∧ (γ = true → S w)) → (i = k → γ = false) → (∀ j ∈ deps i, ∃ v, (∀ k, dstOf l.toArray j = some k → a.eval (.tmp k) = v) ∧ (gs.getD j fun _ _ _ => True) γ v w) →
      (∀ k, (∀ j, j < l.length → dstOf l.toArray j ≠ some k) → a.eval (.tmp k) = a0.eval (.tmp k)) →
      o.wp P a w (fun a' w' => ∃ v, a' = a.put o.dst v ∧ Did (fun γ w γ' w' => w.grownBy w' (some b) ∧ (γ = true → γ' = true) ∧ (γ' = false → Below w.heap.size w w') ∧ (γ' = true → S w')) (fun i γ => i = k → γ = false) γ w i v w' (gs.getD i fun _ _ _ => True)) Q) n m from h l 0 (by simp) hop
    intro m
    induction m with
    | nil => intro n _ _; trivial
    | cons o m ih =>
      intro n hnl h
      refine ⟨?_, ih _ (by simp at hnl; omega) h.2⟩
      have hnlt : n < l.length := by simp at hnl; omega
      intro a γ w hj hu hd hf
      refine Oper.wp_mono ?_ (h.1 a w hj.1 ?_ (fun j hjj => ?_) hf)
      · rintro a' w' ⟨v, ha, hb, hF⟩
        rcases hb with ⟨hb, hne⟩ | ⟨rfl, hgr, hbx⟩
        · exact ⟨v, ha, γ, ⟨grown_of_below' hb, fun h => h, fun _ => hb, fun h => hS _ _ (hj.2.2 h) hb⟩, fun _ _ h => h, (hg n hnlt _ _ _).2 ⟨fun e => absurd e hne, hF⟩⟩
        · exact ⟨v, ha, true, ⟨hgr, fun _ => rfl, fun h => (by cases h), fun _ => hbx⟩, fun j hj h e => absurd e hj, (hg n hnlt _ _ _).2 ⟨fun _ => rfl, hF⟩⟩
      · cases hγ : γ with
        | false => exact .inl (hj.2.1 hγ)
        | true =>
          refine .inr ⟨fun e => ?_, hj.2.2 hγ⟩
          have := hu e
          rw [hγ] at this
          cases this
      · obtain ⟨v, h1, h2⟩ := hd j hjj
        refine ⟨v, h1, ?_⟩
        by_cases hjl : j < l.length
        · exact ((hg j hjl _ _ _).1 h2).2
        · rw [List.getD_eq_getElem?_getD, List.getElem?_eq_none (by omega)]
          trivial
  · intro V γ w hj h
    have hγ : γ = true := ((hg k hk _ _ _).1 (h k hk)).1 rfl
    exact hfin V w hj.1 (hj.2.2 hγ) (fun i hi => ((hg i hi _ _ _).1 (h i hi)).2)
/-- One store, of operation k, into block b. -/
theorem wp_region_one {id : Nat} {W : World} (b : Nat) (t : TypeId) (cells : List Value) (k : Nat) (fs : List (Value → World → Prop)) (deps : Nat → List Nat) (ds : List (Option Tmp)) (hds : l.map (·.dst) = ds)
    (hm : P.follows .mixedOrders = true) (hpl : plainB l.toArray a0.tmps.size = true) (hdp : waitsB l.toArray deps = true) (hk : k < l.length) (hfl : fs.length = l.length)
    (hkeep : ∀ i, i < l.length → ∀ v w w', (fs.getD i fun _ _ => True) v w → w.grownBy w' (some b) → (fs.getD i fun _ _ => True) v w') 
    (hop : Hops (fun i o => ∀ a w, W.grownBy w (some b) → (Below W.heap.size W w ∨ i ≠ k ∧ Bx w b t cells) → (∀ j ∈ deps i, ∃ v, (∀ k, dstOf l.toArray j = some k → a.eval (.tmp k) = v) ∧ (fs.getD j fun _ _ => True) v w) →
      (∀ k, (∀ j, j < l.length → dstOf l.toArray j ≠ some k) → a.eval (.tmp k) = a0.eval (.tmp k)) →
      o.wp P a w (fun a' w' => ∃ v, a' = a.put o.dst v ∧ (Below w.heap.size w w' ∧ i ≠ k ∨ i = k ∧ w.grownBy w' (some b) ∧ Bx w' b t cells) ∧ (fs.getD i fun _ _ => True) v w') Q) 0 l)
    (hfin : ∀ V w, W.grownBy w (some b) → Bx w b t cells → (∀ i, i < l.length → (fs.getD i fun _ _ => True) (V i) w) → Q .normal (putD V 0 ds a0) w) :
    (Code.region id l.toArray true).wp P Q a0 W :=
  wp_region_oneS b (fun w => Bx w b t cells) (fun w w' h hb => h.below hb) k fs deps ds hds hm hpl hdp hk hfl hkeep hop hfin
end
end Go.Proofs.YtappfhjknihboaaGreatDoor


/- Regions that draw their order, with the frame of slots that only later operations write. No program in sight. -/
namespace Go.Proofs.YtappfhjknihboaaGreatDoor
open Go.RowKit

/-- Operation j waits for operation i. -/
def behindB (ops : Array Oper) (j i : Nat) : Bool := match ops[j]? with
  | none => false
  | some o => o.after.any fun e => Region.binds .any e && e.on == i
section
variable {P : Program} {ops : Array Oper} {Q : Exit → Act → World → Prop} {Γ : Type} {R : Nat → Γ → Value → World → Prop} {J : Γ → World → Prop} {E : Γ → World → Γ → World → Prop} {U : Nat → Γ → Prop} {a0 : Act} {deps : Nat → List Nat}

def RInv2 (ops : Array Oper) (R : Nat → Γ → Value → World → Prop) (J : Γ → World → Prop) (U : Nat → Γ → Prop) (a0 : Act) (listed : Array Bool) (a : Act) (w : World) : Prop :=
  (∀ j o, listed.getD j false = true → ops[j]? = some o → ∀ e ∈ o.after, Region.binds .any e = true → listed.getD e.on false = true) ∧ listed.size = ops.size ∧ a.defers = a0.defers ∧ a.tmps.size = a0.tmps.size ∧ (∀ k, (∀ i, listed.getD i false = true → dstOf ops i ≠ some k) → a.tmps[k]? = a0.tmps[k]?) ∧
  ∃ γ, J γ w ∧ (∀ i, listed.getD i true = false → U i γ) ∧ ∀ i, listed.getD i false = true → ∃ v, (∀ k, dstOf ops i = some k → a.tmps[k]? = some v) ∧ R i γ v w

/-- A region that draws its order: each operation leaves its fact, whatever came before it but what it waits for. -/
theorem wp_region_specs2 {id : Nat} {w0 : World} (hm : P.follows .mixedOrders = true) (hpl : plainB ops a0.tmps.size = true) (hdp : waitsB ops deps = true) (γ0 : Γ)
    (hU : ∀ i, U i γ0)
    (hJ : J γ0 { w0 with drawn := w0.drawn + 1 })
    (hJE : ∀ γ w γ' w', J γ w → E γ w γ' w' → J γ' w')
    (hRE : ∀ i γ v w γ' w', i < ops.size → J γ w → R i γ v w → E γ w γ' w' → R i γ' v w')
    (hop : ∀ i o, ops[i]? = some o → ∀ a γ w, J γ w → U i γ → (∀ j ∈ deps i, ∃ v, (∀ k, dstOf ops j = some k → a.eval (.tmp k) = v) ∧ R j γ v w) →
      (∀ k, (∀ j, j < ops.size → dstOf ops j = some k → behindB ops j i = true) → a.eval (.tmp k) = a0.eval (.tmp k)) →
      o.wp P a w (fun a' w' => ∃ v γ', a' = a.put o.dst v ∧ E γ w γ' w' ∧ (∀ j, j ≠ i → U j γ → U j γ') ∧ R i γ' v w') Q)
    (hfin : ∀ V γ w, J γ w → (∀ i, i < ops.size → R i γ (V i) w) → Q .normal (putAll ops V (List.range ops.size) a0) w) :
    (Code.region id ops true).wp P Q a0 w0 := by
  have hpl' : ∀ i o, ops[i]? = some o → o.guard = none ∧ (∀ e ∈ o.after, Region.binds .any e = true → e.on < i) ∧ ∀ k, o.dst = some k → k < a0.tmps.size ∧ ∀ j, j < ops.size → dstOf ops j = some k → j = i := by
    intro i o ho
    have hlt := (Array.getElem?_eq_some_iff.1 ho).1
    have h := List.all_eq_true.1 hpl i (List.mem_range.2 hlt)
    simp only [ho, Bool.and_eq_true] at h
    refine ⟨by simpa using h.1.1, fun e he hb => by have := Array.all_eq_true_iff_forall_mem.1 h.1.2 e he; simpa [hb] using this, fun k hk => ?_⟩
    have h2 := h.2
    simp only [hk, Bool.and_eq_true, decide_eq_true_eq, List.all_eq_true, List.mem_range, Bool.or_eq_true] at h2
    exact ⟨h2.1, fun j hj hd => (h2.2 j hj).resolve_right (fun h => h hd)⟩
  have hdp' : ∀ i o, ops[i]? = some o → ∀ j ∈ deps i, ∃ e ∈ o.after, Region.binds .any e = true ∧ e.on = j := by
    intro i o ho j hj
    have hlt := (Array.getElem?_eq_some_iff.1 ho).1
    have h := List.all_eq_true.1 hdp i (List.mem_range.2 hlt)
    simp only [ho] at h
    have h2 := List.all_eq_true.1 h j hj
    obtain ⟨e, he, hb⟩ := Array.any_eq_true'.1 h2
    simp only [Bool.and_eq_true, beq_iff_eq] at hb
    exact ⟨e, he, hb⟩
  refine wp_region_any hm (wpAny_inv (I := RInv2 ops R J U a0) (fun _ _ _ h => h.2.1) ?_ ?_ _ _ _ _ ?_ (by simp))
  · rintro listed a w i ⟨hcl, hs, hd, hz, hf, γ, hj, hu, hl⟩ hi
    obtain ⟨hun, o, ho, haf⟩ := mem_ready.1 hi
    have hlt := (Array.getElem?_eq_some_iff.1 ho).1
    obtain ⟨hg, _, hk⟩ := hpl' i o ho
    have hdo : dstOf ops i = o.dst := by simp [dstOf, ho]
    have hdep : ∀ j ∈ deps i, ∃ v, (∀ k, dstOf ops j = some k → a.eval (.tmp k) = v) ∧ R j γ v w := by
      intro j hj'
      obtain ⟨e, he, hb, hon⟩ := hdp' i o ho j hj'
      have hlj : listed.getD j false = true := by rw [← hon]; exact haf e he hb
      obtain ⟨v, hv, hr⟩ := hl j hlj
      exact ⟨v, fun k hk' => by simp [Act.eval, hv k hk'], hr⟩
    have hun0 : listed.getD i false = false := by
      cases h' : listed.getD i false with
      | false => rfl
      | true =>
        have hlt' := getD_false_lt h'
        simp [hlt'] at hun h'
        rw [hun] at h'
        cases h'
    have hfr : ∀ k, (∀ j, j < ops.size → dstOf ops j = some k → behindB ops j i = true) → a.eval (.tmp k) = a0.eval (.tmp k) := by
      intro k hk'
      have := hf k (fun j hj' hd' => by
        have hjs : j < ops.size := by rw [← hs]; exact getD_false_lt hj'
        have hb := hk' j hjs hd'
        unfold behindB at hb
        rw [Array.getElem?_eq_getElem hjs] at hb
        obtain ⟨e, he, hbe⟩ := Array.any_eq_true'.1 hb
        simp only [Bool.and_eq_true, beq_iff_eq] at hbe
        have := hcl j _ hj' (Array.getElem?_eq_getElem hjs) e he hbe.1
        rw [hbe.2, hun0] at this
        cases this)
      simp [Act.eval, this]
    have h := hop i o ho a γ w hj (hu i hun) hdep hfr
    unfold wpOp
    simp only [ho, Region.wanted, hg, if_true]
    refine .inl (Oper.wp_mono ?_ h)
    rintro a' w' ⟨v, γ', rfl, he, huu, hr⟩
    have hun' : listed.getD i false = false := by
      cases h' : listed.getD i false with
      | false => rfl
      | true =>
        have hlt' := getD_false_lt h'
        simp [hlt'] at hun h'
        rw [hun] at h'
        cases h'
    have hset : ∀ j, (listed.setIfInBounds i true).getD j false = true ↔ (j = i ∨ listed.getD j false = true) := by
      intro j
      by_cases hji : j = i
      · subst hji
        have hlt' : j < listed.size := by rw [hs]; exact hlt
        simp [hlt']
      · rw [getD_set_ne false (fun e => hji e.symm)]
        simp [hji]
    refine ⟨?_, by simpa using hs, ?_, by rw [put_size]; exact hz, ?_, γ', hJE _ _ _ _ hj he, ?_, ?_⟩
    · intro j oj hj' hoj e hej hbe
      rw [hset] at hj' ⊢
      rcases hj' with rfl | hj'
      · rw [ho] at hoj
        injection hoj with hoj
        subst hoj
        exact .inr (haf e hej hbe)
      · exact .inr (hcl j oj hj' hoj e hej hbe)
    · rw [← hd]
      cases o.dst <;> rfl
    · intro k hk'
      rw [put_other (by rw [← hdo]; exact hk' i ((hset i).2 (.inl rfl)))]
      exact hf k (fun j hj' => hk' j ((hset j).2 (.inr hj')))
    · intro j hj'
      have hji : j ≠ i := fun e => by
        subst e
        have hlt' : j < listed.size := by rw [hs]; exact hlt
        simp [hlt'] at hj'
      rw [getD_set_ne true (fun e => hji e.symm)] at hj'
      exact huu j hji (hu j hj')
    · intro j hj'
      rcases (hset j).1 hj' with rfl | hjl
      · refine ⟨v, fun k hk' => ?_, hr⟩
        rw [hdo] at hk'
        rw [hk']
        exact put_same (by rw [hz]; exact (hk k hk').1)
      · obtain ⟨v', hv', hr'⟩ := hl j hjl
        have hjs : j < ops.size := by rw [← hs]; exact getD_false_lt hjl
        refine ⟨v', fun k hk' => ?_, hRE _ _ _ _ _ _ hjs hj hr' he⟩
        rw [put_other ?_]
        · exact hv' k hk'
        · intro e
          have := (hk k e).2 j hjs hk'
          subst this
          rw [hun'] at hjl
          cases hjl
  · rintro listed a w ⟨hcl, hs, hd, hz, hf, γ, hj, hu, hl⟩ hr
    have hall : ∀ i, i < ops.size → listed.getD i false = true := by
      intro i
      induction i using Nat.strongRecOn with
      | ind i ih =>
        intro hi
        cases h' : listed.getD i false with
        | true => rfl
        | false =>
          exfalso
          have hm' : i ∈ Region.ready .any ops listed := by
            refine mem_ready.2 ⟨?_, ops[i], Array.getElem?_eq_getElem hi, fun e he hb => ?_⟩
            · have hlt' : i < listed.size := by rw [hs]; exact hi
              simp [hlt'] at h' ⊢
              exact h'
            · have := (hpl' i _ (Array.getElem?_eq_getElem hi)).2.1 e he hb
              exact ih _ this (by omega)
          rw [hr] at hm'
          cases hm'
    have hV : ∃ V : Nat → Value, ∀ i, i < ops.size → (∀ k, dstOf ops i = some k → a.tmps[k]? = some (V i)) ∧ R i γ (V i) w := by
      refine ⟨fun i => if h : i < ops.size then Classical.choose (hl i (hall i h)) else undef, fun i hi => ?_⟩
      simp only [dif_pos hi]
      exact Classical.choose_spec (hl i (hall i hi))
    obtain ⟨V, hV⟩ := hV
    have ha : a = putAll ops V (List.range ops.size) a0 := by
      have h1 : a.tmps = (putAll ops V (List.range ops.size) a0).tmps := by
        refine Array.ext_getElem? fun k => ?_
        by_cases hk : ∃ i, i < ops.size ∧ dstOf ops i = some k
        · obtain ⟨i, hi, hd'⟩ := hk
          have hdo : dstOf ops i = ops[i].dst := by simp [dstOf, hi]
          have hu := (hpl' i _ (Array.getElem?_eq_getElem hi)).2.2 k (by rw [← hdo]; exact hd')
          rw [(hV i hi).1 k hd', putAll_at ops V hd' _ _ hu.1 (List.mem_range.2 hi) (fun j hj' => hu.2 j (List.mem_range.1 hj'))]
        · have hk' : ∀ i, i < ops.size → dstOf ops i ≠ some k := fun i hi e => hk ⟨i, hi, e⟩
          rw [hf k (fun i hi => hk' i (by rw [← hs]; exact getD_false_lt hi)), putAll_other ops V _ _ (fun i hi => hk' i (List.mem_range.1 hi))]
      have h2 : a.defers = (putAll ops V (List.range ops.size) a0).defers := by rw [putAll_defers, hd]
      cases a
      cases h : putAll ops V (List.range ops.size) a0
      rw [h] at h1 h2
      simp only at h1 h2
      rw [h1, h2]
    rw [ha]
    exact hfin V γ w hj (fun i hi => (hV i hi).2)
  · refine ⟨fun j o h _ _ _ _ => (by have := getD_false_lt h; simp at this; simp [this] at h), by simp, rfl, rfl, fun _ _ => rfl, γ0, hJ, fun i _ => hU i, fun i hi => ?_⟩
    have := getD_false_lt hi
    simp at this
    simp [this] at hi
end
section
variable {P : Program} {l : List Oper} {Q : Exit → Act → World → Prop} {Γ : Type} {J : Γ → World → Prop} {E : Γ → World → Γ → World → Prop} {U : Nat → Γ → Prop} {a0 : Act}
theorem wp_region_list2 {id : Nat} {w0 : World} (fs : List (Γ → Value → World → Prop)) (deps : Nat → List Nat) (ds : List (Option Tmp)) (hds : l.map (·.dst) = ds)
    (hm : P.follows .mixedOrders = true) (hpl : plainB l.toArray a0.tmps.size = true) (hdp : waitsB l.toArray deps = true) (γ0 : Γ) (hU : ∀ i, U i γ0) (hJ : J γ0 { w0 with drawn := w0.drawn + 1 })
    (hJE : ∀ γ w γ' w', J γ w → E γ w γ' w' → J γ' w')
    (hRE : ∀ i, i < l.length → ∀ γ v w γ' w', J γ w → (fs.getD i fun _ _ _ => True) γ v w → E γ w γ' w' → (fs.getD i fun _ _ _ => True) γ' v w')
    (hop : Hops (fun i o => ∀ a γ w, J γ w → U i γ → (∀ j ∈ deps i, ∃ v, (∀ k, dstOf l.toArray j = some k → a.eval (.tmp k) = v) ∧ (fs.getD j fun _ _ _ => True) γ v w) →
      (∀ k, (∀ j, j < l.length → dstOf l.toArray j = some k → behindB l.toArray j i = true) → a.eval (.tmp k) = a0.eval (.tmp k)) →
      o.wp P a w (fun a' w' => ∃ v, a' = a.put o.dst v ∧ Did E U γ w i v w' (fs.getD i fun _ _ _ => True)) Q) 0 l)
    (hfin : ∀ V γ w, J γ w → (∀ i, i < l.length → (fs.getD i fun _ _ _ => True) γ (V i) w) → Q .normal (putD V 0 ds a0) w) :
    (Code.region id l.toArray true).wp P Q a0 w0 :=
  wp_region_specs2 (R := fun i => fs.getD i fun _ _ _ => True) (J := J) (E := E) (U := U) (deps := deps) hm hpl hdp γ0 hU hJ hJE
    (fun i γ v w γ' w' hi hj h he => hRE i (by simpa using hi) γ v w γ' w' hj h he)
    (fun i o ho a γ w hj hu hd hf => by
      have h := hops_at l 0 hop i o (by simpa using ho)
      rw [Nat.zero_add] at h
      refine Oper.wp_mono ?_ (h a γ w hj hu hd (fun k hk => hf k (fun j hj' => hk j (by simpa using hj'))))
      rintro a' w' ⟨v, e, γ', he, hu', hF⟩
      exact ⟨v, γ', e, he, hu', hF⟩)
    (fun V γ w hj h => by
      have := hfin V γ w hj (fun i hi => h i (by simpa using hi))
      rw [← hds, ← putAll_eq l V l 0 a0 (fun i => by rw [Nat.zero_add])] at this
      rw [List.size_toArray, List.range_eq_range']
      exact this)
end
end Go.Proofs.YtappfhjknihboaaGreatDoor
