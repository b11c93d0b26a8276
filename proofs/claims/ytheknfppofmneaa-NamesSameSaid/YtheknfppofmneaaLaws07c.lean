/- The walk of NamesSame. -/
import Derived.Test.YtheknfppofmneaaLaws07
namespace Go.Proofs.Ytheknfppofmneaa
open Go.RowKit

theorem fold_nl (b : ByteArray) : foldB b = ⟨#[10]⟩ ↔ b = ⟨#[10]⟩ := by
  constructor
  · intro h
    have h1 : foldL b = [10] := by
      have := congrArg (fun x : ByteArray => x.data.toList) h
      simpa [foldB] using this
    unfold foldL at h1
    obtain ⟨c, hc, hcap⟩ : ∃ c, b.data.toList = [c] ∧ capB c = 10 := by
      cases hb : b.data.toList with
      | nil => rw [hb] at h1; simp at h1
      | cons x r =>
        rw [hb] at h1
        cases r with
        | nil => exact ⟨x, rfl, by simpa using h1⟩
        | cons y r => simp at h1
    have hc10 : c = 10 := by
      unfold capB at hcap
      split at hcap
      · rename_i hr
        have := congrArg UInt8.toNat hcap
        simp at this
        have h2 := c.toNat_lt
        have e : c.toNat = 42 := by omega
        omega
      · exact hcap
    apply ByteArray.ext
    apply Array.toList_inj.1
    rw [hc, hc10]
  · rintro rfl
    decide +kernel
/-- Two words: one of a, one that is a line feed. -/
def wdS (a : ByteArray) : List Wd := [⟨a, 0, false, false⟩, ⟨⟨#[10]⟩, 0, false, false⟩]
theorem same_nl (a : ByteArray) : findN (wdS a) (foldB ⟨#[10]⟩) = 1 :=
  findN_at (k := 1) (by simp [wdS]) (by simp [wdS, isW]) (fun j h1 h2 => by simp [wdS] at h2; omega)
theorem same_a {a b : ByteArray} (h : foldB a = foldB b) (hb : b ≠ ⟨#[10]⟩) : findN (wdS a) (foldB b) = 0 :=
  findN_at (k := 0) (by simp [wdS]) (by simp [wdS, isW, h]) (fun j h1 h2 => by
    obtain rfl : j = 1 := by simp [wdS] at h2; omega
    simp only [wdS, isW]
    simp
    intro he
    rw [show foldB ⟨#[10]⟩ = ⟨#[10]⟩ from (fold_nl _).2 rfl] at he
    exact hb ((fold_nl b).1 he.symm))
theorem same_no {a b : ByteArray} (h : foldB a ≠ foldB b) (hb : b ≠ ⟨#[10]⟩) : findN (wdS a) (foldB b) = -1 :=
  findN_none (fun j hj => by
    have : j = 0 ∨ j = 1 := by simp [wdS] at hj; omega
    rcases this with rfl | rfl
    · simp [wdS, isW, h]
    · simp [wdS, isW]
      intro he
      rw [show foldB ⟨#[10]⟩ = ⟨#[10]⟩ from (fold_nl _).2 rfl] at he
      exact hb ((fold_nl b).1 he.symm))

set_option maxHeartbeats 1000000 in
set_option maxRecDepth 100000 in
theorem NamesSame_walk (a b : ByteArray) (w : World) (ha : a.size ≤ maxLen) (hb : b.size ≤ maxLen) :
    Calls Try.prog 7 #[.string a, .string b] w fun e w' => e = .returned (.bool true) ∧ Below w.heap.size w w' := by
  unfold maxLen at ha hb
  go_enter Try.func7, Try.ntmps7
  go_wp2_with fail
  refine (awake_any w).mono ?_
  rintro e w1 ⟨rfl, hbl⟩
  have HB := Lib.hid hbl
  clear hbl
  by_cases h1 : 60 < a.size
  · go_wp2
    go_ret
    exact ⟨rfl, HB.out⟩
  by_cases h2 : 60 < b.size
  · go_wp2
    go_ret
    exact ⟨rfl, HB.out⟩
  have hx : RdW (w1.alloc (.cells #[.string a, .int .i64 0, .bool false, .bool false, .string ⟨#[10]⟩, .int .i64 0, .bool false, .bool false] 31)) (some ⟨w1.heap.size, 0, none⟩) 2 (wdS a) :=
    rd_alloc w1 (wcells (wdS a)) _ 31 (0, 0) 2 2 4 rfl rfl (by decide) (by decide)
  have HX := Lib.hid hx
  have HB := Lib.hid (below_two HB.out (below_lit w1 (.cells #[.string a, .int .i64 0, .bool false, .bool false, .string ⟨#[10]⟩, .int .i64 0, .bool false, .bool false] 31)))
  clear hx
  have hw : ∀ x ∈ wdS a, x.nm.size ≤ 140737488355327 := by
    intro x hx
    simp [wdS] at hx
    rcases hx with rfl | rfl
    · show a.size ≤ _
      omega
    · decide
  have HW := Lib.hid hw
  clear hw
  obtain ⟨r, hr⟩ : ∃ r, findN (wdS a) (foldB b) = r := ⟨_, rfl⟩
  have HR := Lib.hid hr
  clear hr
  go_wp2_with fail
  refine (Find_is _ 2 2 (wdS a) b r _ rfl HR.out HX.out (by decide) HW.out (by omega)).mono ?_
  rintro e w2 ⟨rfl, hbl⟩
  (replace HX := Lib.hid (Rd.below (Hid.out HX) hbl))
  have HB := Lib.hid (below_two HB.out hbl)
  clear hbl
  go_wp2_with fail
  refine (Fold_any a _ (by omega)).mono ?_
  rintro e w3 ⟨rfl, hbl⟩
  (replace HX := Lib.hid (Rd.below (Hid.out HX) hbl))
  have HB := Lib.hid (below_two HB.out hbl)
  clear hbl
  go_wp2_with fail
  refine (Fold_any b _ (by omega)).mono ?_
  rintro e w4 ⟨rfl, hbl⟩
  (replace HX := Lib.hid (Rd.below (Hid.out HX) hbl))
  have HB := Lib.hid (below_two HB.out hbl)
  clear hbl
  by_cases hb10 : b = ⟨#[10]⟩
  · subst hb10
    have h := HR.out
    rw [same_nl] at h
    subst h
    by_cases he : foldB a = foldB ⟨#[10]⟩
    · have heq := eq_toList (foldB a) (foldB ⟨#[10]⟩)
      rw [decide_eq_true he] at heq
      go_wp2_with fail
      refine (Find_is _ 2 2 (wdS a) ⟨#[10]⟩ 1 _ rfl (same_nl a) HX.out (by decide) HW.out (by decide)).mono ?_
      rintro e w5 ⟨rfl, hbl⟩
      have HB := Lib.hid (below_two HB.out hbl)
      clear hbl
      go_wp2
      go_ret
      exact ⟨rfl, HB.out⟩
    · have heq := eq_toList (foldB a) (foldB ⟨#[10]⟩)
      rw [decide_eq_false he] at heq
      go_wp2_with fail
      refine (Find_is _ 2 2 (wdS a) ⟨#[10]⟩ 1 _ rfl (same_nl a) HX.out (by decide) HW.out (by decide)).mono ?_
      rintro e w5 ⟨rfl, hbl⟩
      have HB := Lib.hid (below_two HB.out hbl)
      clear hbl
      go_wp2
      go_ret
      exact ⟨rfl, HB.out⟩
  have hnl : (b.toList == (⟨#[10]⟩ : ByteArray).toList) = false := by rw [eq_toList]; exact decide_eq_false hb10
  have hnl2 : (b.toList != (⟨#[10]⟩ : ByteArray).toList) = true := by rw [bne, hnl]; rfl
  have hnl3 : (b.toList == [10]) = false := by
    rw [← hnl]
    congr 1
    rw [ByteArray.toList_eq]
  have hnl4 : (b.toList != [10]) = true := by rw [bne, hnl3]; rfl
  by_cases he : foldB a = foldB b
  · have heq := eq_toList (foldB a) (foldB b)
    rw [decide_eq_true he] at heq
    have h := HR.out
    rw [same_a he hb10] at h
    subst h
    clear he
    go_wp2_with fail
    refine (Find_is _ 2 2 (wdS a) ⟨#[10]⟩ 1 _ rfl (same_nl a) HX.out (by decide) HW.out (by decide)).mono ?_
    rintro e w5 ⟨rfl, hbl⟩
    have HB := Lib.hid (below_two HB.out hbl)
    clear hbl
    go_wp2
    go_ret
    exact ⟨rfl, HB.out⟩
  · have heq := eq_toList (foldB a) (foldB b)
    rw [decide_eq_false he] at heq
    have h := HR.out
    rw [same_no he hb10] at h
    subst h
    clear he
    go_wp2_with fail
    refine (Find_is _ 2 2 (wdS a) ⟨#[10]⟩ 1 _ rfl (same_nl a) HX.out (by decide) HW.out (by decide)).mono ?_
    rintro e w5 ⟨rfl, hbl⟩
    have HB := Lib.hid (below_two HB.out hbl)
    clear hbl
    go_wp2
    go_ret
    exact ⟨rfl, HB.out⟩
end Go.Proofs.Ytheknfppofmneaa
