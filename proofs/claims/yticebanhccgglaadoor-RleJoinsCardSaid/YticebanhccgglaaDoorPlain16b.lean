
/- Plain words on reading numbers. -/
import Derived.Test.YticebanhccgglaaDoorPlain16
namespace Go.Proofs.YticebanhccgglaaDoor
open Go.RowKit

/-- How many bytes of 128 and more stand ahead. -/
def lead : List Int → Nat
  | [] => 0
  | x :: l => if 128 ≤ x then lead l + 1 else 0
theorem lead_le : ∀ l, lead l ≤ l.length
  | [] => Nat.le_refl _
  | x :: l => by
    have := lead_le l
    unfold lead
    split <;> simp <;> omega
theorem lead_step : ∀ (l : List Int) (k : Nat), k ≤ lead l → k < l.length → (128 ≤ l.getD k 0 → k + 1 ≤ lead l) ∧ (¬ 128 ≤ l.getD k 0 → lead l = k)
  | x :: l, 0, h1, h2 => by
    refine ⟨fun h => ?_, fun h => ?_⟩
    · rw [lead, if_pos (by simpa using h)]
      omega
    · rw [lead, if_neg (by simpa using h)]
  | x :: l, k + 1, h1, h2 => by
    by_cases hx : 128 ≤ x
    · rw [lead, if_pos hx] at h1 ⊢
      have := lead_step l k (by omega) (by simpa using h2)
      simp only [List.getD_cons_succ]
      omega
    · rw [lead, if_neg hx] at h1
      omega
theorem lead_in : ∀ (l : List Int) (k : Nat), k < lead l → 128 ≤ l.getD k 0
  | [], k, h => by simp [lead] at h
  | x :: l, 0, h => by
    unfold lead at h
    split at h
    · simpa
    · omega
  | x :: l, k + 1, h => by
    unfold lead at h
    split at h
    · simpa using lead_in l k (by omega)
    · omega
def endsL (l : List Int) : Nat × Int :=
  if l.length = 0 then (0, 3) else if l.getD 0 0 = 128 ∨ 10 ≤ lead l then (0, 2) else if lead l = l.length then (0, 3) else if lead l = 9 ∧ 129 < l.getD 0 0 then (0, 2) else (lead l + 1, 0)
theorem endsL_le (l : List Int) : (endsL l).1 ≤ l.length ∧ (endsL l).1 ≤ 10 := by
  have := lead_le l
  unfold endsL
  split
  · simp
  · split
    · simp
    · split
      · simp
      · split
        · simp
        · simp only
          omega
def stepV (x c : Int) : Int := (x * 128 + c % 128) % 18446744073709551616
def valL (l : List Int) : Int := l.foldl stepV 0
theorem valL_range (l : List Int) : ∀ x, 0 ≤ x → x < 18446744073709551616 → 0 ≤ l.foldl stepV x ∧ l.foldl stepV x < 18446744073709551616 := by
  induction l with
  | nil => exact fun x h0 h1 => ⟨h0, h1⟩
  | cons a l ih => exact fun x h0 h1 => ih _ (by unfold stepV; omega) (by unfold stepV; omega)
theorem valL_snoc (l : List Int) (k : Nat) (h : k < l.length) : valL (l.take (k + 1)) = stepV (valL (l.take k)) (l.getD k 0) := by
  unfold valL
  rw [List.take_succ_eq_append_getElem h, List.foldl_append]
  simp [List.getD_eq_getElem?_getD, h]
def unz (x : Int) : Int := if x % 2 = 1 then -(x / 2) - 1 else x / 2
def readS (l : List Int) (e lo hi : Int) : Int × List Int × Int :=
  if e ≠ 0 then (0, l, e) else if (endsL l).2 ≠ 0 then (0, l, (endsL l).2) else
    if unz (valL (l.take (endsL l).1)) < lo ∨ hi < unz (valL (l.take (endsL l).1)) then (0, l.drop (endsL l).1, 2) else (unz (valL (l.take (endsL l).1)), l.drop (endsL l).1, 0)
def textS (l : List Int) (e hi : Int) : List Int × List Int × Int :=
  if (readS l e 0 hi).2.2 ≠ 0 then ([], (readS l e 0 hi).2) else if ((readS l e 0 hi).2.1.length : Int) < (readS l e 0 hi).1 then ([], (readS l e 0 hi).2.1, 3) else
    ((readS l e 0 hi).2.1.take (readS l e 0 hi).1.toNat, (readS l e 0 hi).2.1.drop (readS l e 0 hi).1.toNat, 0)
end Go.Proofs.YticebanhccgglaaDoor
