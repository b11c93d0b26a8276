/- number.Take. -/
import Derived.Test.YtmpmhbfaebgdgaaCut
import Derived.Test.YtmpmhbfaebgdgaaKept
import Derived.Deep.QuietTactic
import Derived.BigQuiet
namespace Go.Proofs.Ytmpmhbfaebgdgaa
open Go.RowKit

/-- One figure more. -/
def stepN (n b d : Int) : Int := wrap64 (wrap64 (n * b) + d)
def isFig (b c : Int) : Bool := decide (0 ≤ figN c) && decide (figN c < b)
/-- The figures from i on. -/
def scan (s : ByteArray) (b : Int) (i : Nat) (n : Int) : Option Int := if _h : i < s.size then (if isFig b (bt s i) then scan s b (i + 1) (stepN n b (figN (bt s i))) else none) else some n
  termination_by s.size - i
theorem scan_end {s : ByteArray} {b : Int} {i : Nat} {n : Int} (h : ¬ i < s.size) : scan s b i n = some n := by rw [scan, dif_neg h]
theorem scan_yes {s : ByteArray} {b : Int} {i : Nat} {n : Int} (h : i < s.size) (hf : isFig b (bt s i) = true) : scan s b i n = scan s b (i + 1) (stepN n b (figN (bt s i))) := by rw [scan, dif_pos h, if_pos hf]
theorem scan_no {s : ByteArray} {b : Int} {i : Nat} {n : Int} (h : i < s.size) (hf : isFig b (bt s i) = false) : scan s b i n = none := by rw [scan, dif_pos h, if_neg (by rw [hf]; decide)]
/-- The sign's base, or 0. -/
def signB (s : ByteArray) : Int := if begins s 35 then 10 else if begins s 36 then 16 else if begins s 37 then 2 else 0
theorem isFig_ascii {b c : Int} (h : isFig b c = true) : 48 ≤ c ∧ c < 128 := by
  unfold isFig figN at h
  simp only [Bool.and_eq_true, decide_eq_true_eq] at h
  obtain ⟨h1, h2⟩ := h
  split at h1
  · omega
  · split at h1
    · omega
    · split at h1 <;> omega

/-- What the loop over a text does: the figures, or that there is something else. -/
def digitsR (s : ByteArray) (b : Int) : Int × Bool := match scan s b 0 0 with
  | some n => (n, true)
  | none => (0, false)
def neg64 (n : Int) : Int := wrap64 (-n)
/-- Behind the signs. -/
def tailR (r : ByteArray) (b : Int) (minus : Bool) : Int × Bool :=
  if putOk b && decide (0 < r.size) then (match scan r b 0 0 with
    | some n => (if minus then neg64 n else n, true)
    | none => (0, false)) else (0, false)

theorem cut_is (s : ByteArray) (c : UInt8) (k : Int) (g : Nat) (b : Bool) (r : ByteArray) (w : World) (hk : (c.toNat : Int) = k) (hb : begins s k = b) (hr : cutS s k = r) (hp : w.cell? ⟨g, 0, none⟩ = some (.string s)) (hf : w.frozen? ⟨g, 0, none⟩ = false) :
    Calls Try.prog 15 #[.string ⟨#[c]⟩, .pointer (some ⟨g, 0, none⟩)] w fun e w' => e = .returned (.bool b) ∧ w'.cell? ⟨g, 0, none⟩ = some (.string r) ∧ w'.frozen? ⟨g, 0, none⟩ = false ∧ Below g w w' := by
  refine (cut_any s c k ⟨g, 0, none⟩ b r w hk hb hr hp hf).mono ?_
  rintro e w' ⟨rfl, rfl⟩
  exact ⟨rfl, World.cell?_setCell_same _ _ _ hp, by simpa using hf, (Below.refl g w).setCell (p := ⟨g, 0, none⟩) (Nat.le_refl _) _⟩
/-- A cell as a character. -/
def isChar (s : ByteArray) : Bool := decide (s.size = 3) && (decide (bt s 0 = 39) && decide (bt s 2 = 39))
/-- The signs, cut off in turn. -/
def signR (s : ByteArray) : ByteArray := if begins s 35 then cutS s 35 else if begins s 36 then cutS s 36 else if begins s 37 then cutS s 37 else s
def baseR (s : ByteArray) (b : Int) : Int := if begins s 35 then 10 else if begins s 36 then 16 else if begins s 37 then 2 else b
def takeR (s : ByteArray) (b : Int) : Int × Bool := if isChar s then (bt s 1, true) else tailR (cutS (signR s) 45) (baseR s b) (begins (signR s) 45)
theorem cutS_no {s : ByteArray} {c : Int} (h : begins s c = false) : cutS s c = s := by rw [cutS, if_neg (by rw [h]; decide)]
theorem cutS_size (s : ByteArray) (c : Int) : (cutS s c).size ≤ s.size := by
  unfold cutS
  split
  · rw [ByteArray.size_extract]; omega
  · exact Nat.le_refl _

-- GENERATED
/-- What the figures tell. -/
def finR (o : Option Int) (mb : Bool) : Int × Bool := match o with
  | some n => (if mb then neg64 n else n, true)
  | none => (0, false)
theorem width_pos (s : ByteArray) (pos : Nat) (h : pos < s.size) : 1 ≤ (Utf8.decode s pos).2 := by
  by_cases ha : (s[pos]'h).toNat < 128
  · rw [decode_ascii s pos h ha]
    exact Nat.le_refl _
  · exact (decode_high s pos h (by omega)).2
theorem width_le (s : ByteArray) (pos : Nat) (h : pos < s.size) : pos + (Utf8.decode s pos).2 ≤ s.size := by
  by_cases hw : (Utf8.decode s pos).2 ≤ 1
  · omega
  · have := (decode_tail s pos (pos + (Utf8.decode s pos).2 - 1) (by omega) (by omega)).1
    omega
theorem notChar {s : ByteArray} (h : isChar s = false) : s.size ≠ 3 ∨ (s.size = 3 ∧ bt s 0 ≠ 39) ∨ (s.size = 3 ∧ bt s 0 = 39 ∧ bt s 2 ≠ 39) := by
  unfold isChar at h
  by_cases h1 : s.size = 3
  · by_cases h2 : bt s 0 = 39
    · by_cases h3 : bt s 2 = 39
      · rw [decide_eq_true h1, decide_eq_true h2, decide_eq_true h3] at h
        cases h
      · exact .inr (.inr ⟨h1, h2, h3⟩)
    · exact .inr (.inl ⟨h1, h2⟩)
  · exact .inl h1
theorem toList_empty5 (s : ByteArray) : s.toList.isEmpty = decide (s.size = 0) := by
  rw [ByteArray.toList_eq]
  have : s.data.toList.length = s.size := by simp
  cases h : s.data.toList with
  | nil => rw [h] at this; simp at this; simp [← this]
  | cons a b =>
    rw [h, List.length_cons] at this
    rw [decide_eq_false (by omega)]
    rfl

set_option maxHeartbeats 1000000 in
set_option maxRecDepth 100000 in
theorem Take_char (s : ByteArray) (b : Int) (w : World) (hch : isChar s = true) (hs : s.size ≤ 1000000) :
    Calls Try.prog 11 #[.string s, .int .i64 b] w fun e w' => e = .returned (.tuple #[.int .i64 (bt s 1), .bool true]) ∧ Below w.heap.size w w' := by
  unfold isChar at hch
  simp only [Bool.and_eq_true, decide_eq_true_eq] at hch
  obtain ⟨h3, h0, h2⟩ := hch
  have g0 := get_bt s 0 (by omega)
  have g1 := get_bt s 1 (by omega)
  have g2 := get_bt s 2 (by omega)
  have hb1 := bt_range s 1
  generalize bt s 1 = x at *
  rw [h0] at g0
  rw [h2] at g2
  clear h0 h2
  go_enter Try.func11, Try.ntmps11
  go_wp2
  go_ret2
  exact ⟨rfl, below_lit _ _⟩

end Go.Proofs.Ytmpmhbfaebgdgaa
