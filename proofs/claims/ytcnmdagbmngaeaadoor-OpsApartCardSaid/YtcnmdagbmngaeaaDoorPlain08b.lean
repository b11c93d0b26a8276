/- Plain laws on the words that there are from the begin. -/
import Derived.Test.YtcnmdagbmngaeaaDoorPlain08
namespace Go.Proofs.YtcnmdagbmngaeaaDoor
theorem nm_fold : ∀ k, k < 137 → foldB (nm k) = nm k := by decide +kernel
theorem nm_none : nmIdx (foldB ByteArray.empty) = 137 := by decide +kernel
theorem find_form (f : ByteArray) : findR f = 0 ∨ ∃ c : Nat, c < 137 ∧ findR f = (c : Int) + 1 ∧ isR ((c : Int) + 1) = true ∧ innerR ((c : Int) + 1) = false ∧ nameR ((c : Int) + 1) = f := by
  unfold findR
  split
  · rename_i h
    obtain ⟨h1, h2⟩ := h
    refine .inr ⟨nmIdx f, h1, rfl, ?_, h2, ?_⟩
    · simp [isR]; omega
    · rw [nameR_at _ h1, nmIdx_at h1]
  · exact .inl rfl
theorem find_there {op : Int} (h1 : isR op = true) (h2 : innerR op = false) : findR (foldB (nameR op)) = op := by
  obtain ⟨k, hk, rfl⟩ := is_at h1
  rw [nameR_at k hk, nm_fold k hk, findR, nm_idx k hk, if_pos ⟨hk, h2⟩]
theorem find_inner {op : Int} (h1 : isR op = true) (h2 : innerR op = true) : findR (foldB (nameR op)) = 0 := by
  obtain ⟨k, hk, rfl⟩ := is_at h1
  rw [nameR_at k hk, nm_fold k hk, findR, nm_idx k hk, if_neg (by rw [h2]; simp)]
theorem find_not {op : Int} (h1 : isR op = false) : findR (foldB (nameR op)) = 0 := by
  rw [nameR_no (by simpa [isR] using h1), findR, nm_none, if_neg (by omega)]
theorem name_size (op : Int) : (nameR op).size ≤ 10 := by
  unfold nameR
  split
  · exact (nm_size _ (by omega)).2
  · decide
theorem name_some {op : Int} (h : isR op = true) : 0 < (nameR op).size := by
  obtain ⟨k, hk, rfl⟩ := is_at h
  rw [nameR_at k hk]
  exact (nm_size k hk).1
/-- Of kinds. -/
theorem kinds_is {op : Int} (h : isR op = false) : innerR op = false ∧ nowR op = false ∧ onlyR op = false ∧ wideR op = false := by
  simp only [isR, decide_eq_false_iff_not] at h
  simp only [innerR, nowR, onlyR, wideR, decide_eq_false_iff_not]
  omega
theorem kinds_inner {op : Int} (h : innerR op = true) : nowR op = false ∧ onlyR op = false := by
  simp only [innerR, decide_eq_true_eq] at h
  simp only [nowR, onlyR, decide_eq_false_iff_not]
  omega
theorem kinds_wide {op : Int} (h : innerR op = false) : wideR op = false := by
  simp only [innerR, decide_eq_false_iff_not] at h
  simp only [wideR, decide_eq_false_iff_not]
  omega
end Go.Proofs.YtcnmdagbmngaeaaDoor
