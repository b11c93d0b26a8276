
/- rle.Put. -/
import Derived.Test.YticebanhccgglaaDoorRuns17
namespace Go.Proofs.YticebanhccgglaaDoor
open Go.RowKit
attribute [local go_sem] Oper.semAt_some

theorem runsMk (A : Option Addr) (n c : Nat) (w : World) :
    Calls Tryd.prog 13 #[.slice A n c] w fun e w' => e = .returned (.func (.func 20) #[] #[.pointer (some ⟨w.heap.size, 0, none⟩)]) ∧ w' = w.alloc (.cells #[.slice A n c] 22) := by
  go_enter Tryd.func13, Tryd.ntmps13
  go_wp2
  go_ret
  exact ⟨rfl, rfl⟩

set_option maxRecDepth 100000 in
set_option maxHeartbeats 4000000 in
theorem Put_any (A : Option Addr) (c n : Nat) (l : List Int) (P : List Int) (k : Nat) (w : World) (hN : l.length = n) (hx : RdI w .u8 A c l) (hb : ∀ x ∈ l, 0 ≤ x ∧ x < 256) (hn : n ≤ 1000000) (hP : putR l = P) (hk : P.length = k) :
    Calls Tryd.prog 9 #[.slice A n c] w fun e w' => ∃ x, e = .returned x ∧ w'.ownsRow w.heap.size 5 1 x k (nums .u8 P) ∧ Below w.heap.size w w' := by
  have HN := Lib.hid hN
  have HX := Lib.hid hx
  have HBY := Lib.hid hb
  have HP := Lib.hid hP
  have HK := Lib.hid hk
  clear hN hx hb hP hk
  refine (callsIn_wide (n := 3)).1 ?_
  refine callsIn_of_wp_marks Tryd.func9 rfl trivial ?_ rfl
  simp only [Tryd.ntmps9, List.size_toArray, List.length_cons, List.length_nil, Nat.reduceAdd, Nat.reduceSub, Array.replicate_succ, Array.replicate_zero, List.push_toArray, List.append_toArray, List.nil_append, List.cons_append]
  have hmk := runsMk A n c (w.alloc (.cells #[.slice none 0 0] 22))
  rw [World.size_alloc] at hmk
  gi_wp2_with (refine ⟨trivial, ?_⟩; gi_at_call 13; refine (callsIn_wide.2 hmk).mono ?_; rintro e w' ⟨rfl, rfl⟩)
  obtain ⟨W0, hW0⟩ : ∃ W0, (w.alloc (.cells #[.slice none 0 0] 22)).alloc (.cells #[.slice A n c] 22) = W0 := ⟨_, rfl⟩
  have hs0 : W0.heap.size = w.heap.size + 2 := by rw [← hW0]; simp
  have hB0 : Bx W0 w.heap.size 22 [.slice none 0 0] := by rw [← hW0]; exact (Bx.new w _ _ _ _ rfl rfl).alloc _
  have hB1 : Bx W0 (w.heap.size + 1) 22 [.slice A n c] := by rw [← hW0]; exact Bx.new _ _ _ _ _ (by simp) rfl
  have hbel0 : Below w.heap.size w W0 := by rw [← hW0]; exact below_two (below_lit _ _) (below_lit _ _)
  rw [hW0]
  clear hW0 hmk
  refine wpIn_rangeFunc ?_
  intro fn hfn
  obtain ⟨W1, hW1⟩ : ∃ W1, (W0.alloc (.deferred (some []))).alloc (.loop (putRec fn A n c w.heap.size .ready)) = W1 := ⟨_, rfl⟩
  have hbel1 : Below W0.heap.size W0 W1 := by rw [← hW1]; exact below_two ((Below.refl _ _).alloc (Nat.le_refl _) _) ((Below.refl _ _).alloc (Nat.le_refl _) _)
  have hM : Mid w (putRec fn A n c w.heap.size .ready) A c n l [] 0 W1 := by
    refine ⟨?_, ?_, hB1.below hbel1, HN.out, rfl, HX.out, ⟨none, 0, hB0.below hbel1, ⟨rfl, .inl ⟨rfl, rfl⟩⟩⟩, below_two hbel0 hbel1⟩
    · rw [← hW1]
      have := World.alloc_heap_new (W0.alloc (.deferred (some []))) (.loop (putRec fn A n c w.heap.size .ready))
      rwa [World.size_alloc, hs0] at this
    · rw [← hW1]
      have := World.alloc_heap_new W0 (.deferred (some []))
      rw [hs0] at this
      exact (Below.heap_alloc _ _ _ (by simp [hs0])).trans this
  have henter := run_enterLoop_outer (P := Tryd.prog) (w := W0) fn #[.slice A n c, undef, .slice none 0 0, .pointer (some ⟨w.heap.size, 0, none⟩), undef, undef, .slice A n c, .func (.func 20) #[] #[.pointer (some ⟨w.heap.size + 1, 0, none⟩)], undef, undef, undef, undef, undef, undef, undef, undef, undef, undef] #[8, 9] putAssign putBody
  rw [hs0] at henter
  rw [show ({ state := .ready, pending := none, fn, tmps := #[.slice A n c, undef, .slice none 0 0, .pointer (some ⟨w.heap.size, 0, none⟩), undef, undef, .slice A n c, .func (.func 20) #[] #[.pointer (some ⟨w.heap.size + 1, 0, none⟩)], undef, undef, undef, undef, undef, undef, undef, undef, undef, undef], params := #[8, 9], assign := putAssign, body := putBody, defers := w.heap.size + 2 } : Loop) = putRec fn A n c w.heap.size .ready from rfl, hW1] at henter
  refine ⟨w.heap.size + 3, [{ target := .collected (w.heap.size + 2), args := #[] }], W1, { target := .fn (.func 20) #[.pointer (some ⟨w.heap.size + 1, 0, none⟩)], args := #[.func (.yield (w.heap.size + 3)) #[] #[]] }, W1, 20,
    #[.func (.yield (w.heap.size + 3)) #[] #[], .pointer (some ⟨w.heap.size + 1, 0, none⟩)], W1, henter, ?_, fun _ _ => trivial, ?_, fun h => by simp [Fence.wide] at h, ?_⟩
  · simp [resolve, go_sem]
  · simp [invoke, go_sem]
  · refine (runs_any fn _ A A n c c n l w W1 hn HBY.out hM).mono ?_
    rintro e W2 ⟨⟨v, rfl⟩, A2, c2, K2, h2⟩
    have hend := run_endLoop (P := Tryd.prog) h2.L (by simp [putRec])
    obtain ⟨W3, hW3⟩ : ∃ W3, W2.putObj (w.heap.size + 3) (.loop { putRec fn A n c w.heap.size .ready with state := .exhausted }) = W3 := ⟨_, rfl⟩
    have hgr := grownBy_putObj' W2 (w.heap.size + 3) (.loop { putRec fn A n c w.heap.size .ready with state := .exhausted })
    rw [hW3] at hend hgr
    obtain ⟨A7, c7, ho1, ho2⟩ := h2.out
    have hol := h2.olen
    rw [HP.out, HK.out] at hol
    rw [HP.out] at ho2
    subst hol
    have ho1 := ho1.grown hgr (by omega)
    have ho2 := own_keep ho2 hgr (by omega)
    have hD := heap_grown h2.D hgr (by omega)
    have hlt := h2.lt
    have hbel := below_grown h2.bel (by omega) hgr (by omega)
    have hs3 := hgr.size
    have c0 : W3.cell? ⟨w.heap.size, 0, none⟩ = some (.slice A7 k c7) := ho1.cell 0
    have HO2 := Lib.hid ho2
    have HBE := Lib.hid hbel
    clear hW3 hgr h2 ho1 ho2 hM hbel hbel0 hbel1 hB0 hB1 henter hW1
    refine ⟨none, W3, hend, ?_⟩
    gi_wp2
    refine ⟨by simp, .inl ⟨_, _, rfl, run_takeDeferred hD, ?_⟩⟩
    have hg4 := grownBy_putObj' W3 (w.heap.size + 2) (.deferred none)
    refine ⟨_, results_tmp rfl _ _ _, _, rfl, own_mono (own_keep HO2.out hg4 (by omega)) (by omega), below_grown HBE.out (by omega) hg4 (by omega)⟩
end Go.Proofs.YticebanhccgglaaDoor
