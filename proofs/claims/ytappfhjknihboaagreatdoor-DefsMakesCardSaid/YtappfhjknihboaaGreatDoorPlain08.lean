
/- Plain words on the words that there are from the begin: no program in sight. -/
import Derived.Lib.Fields
import Derived.Lib.SlicesS
import Derived.Test.YtappfhjknihboaaGreatDoorMA
namespace Go.Proofs.YtappfhjknihboaaGreatDoor

/-- All names, with blanks between them. -/
def allL : List UInt8 := [69, 88, 73, 84, 32, 40, 76, 73, 84, 41, 32, 40, 66, 82, 65, 78, 67, 72, 41, 32, 40, 48, 66, 82, 65, 78, 67, 72, 41, 32, 40, 68, 79, 41, 32, 40, 76, 79, 79, 80, 41, 32, 40, 43, 76, 79, 79, 80, 41, 32, 40, 86, 65, 82, 41, 32, 40, 68, 79, 69, 83, 41, 32, 40]
  ++ [84, 69, 88, 84, 41, 32, 40, 77, 65, 82, 75, 41, 32, 67, 79, 77, 80, 73, 76, 69, 44, 32, 68, 85, 80, 32, 68, 82, 79, 80, 32, 83, 87, 65, 80, 32, 79, 86, 69, 82, 32, 82, 79, 84, 32, 78, 73, 80, 32, 84, 85, 67, 75, 32, 63, 68, 85, 80, 32, 50, 68, 85, 80, 32]
  ++ [50, 68, 82, 79, 80, 32, 50, 83, 87, 65, 80, 32, 50, 79, 86, 69, 82, 32, 80, 73, 67, 75, 32, 82, 79, 76, 76, 32, 68, 69, 80, 84, 72, 32, 43, 32, 45, 32, 42, 32, 47, 32, 77, 79, 68, 32, 47, 77, 79, 68, 32, 42, 47, 32, 42, 47, 77, 79, 68, 32, 49, 43, 32, 49]
  ++ [45, 32, 50, 42, 32, 50, 47, 32, 78, 69, 71, 65, 84, 69, 32, 65, 66, 83, 32, 77, 73, 78, 32, 77, 65, 88, 32, 65, 78, 68, 32, 79, 82, 32, 88, 79, 82, 32, 73, 78, 86, 69, 82, 84, 32, 76, 83, 72, 73, 70, 84, 32, 82, 83, 72, 73, 70, 84, 32, 61, 32, 60, 62, 32]
  ++ [60, 32, 62, 32, 85, 60, 32, 48, 61, 32, 48, 60, 32, 48, 60, 62, 32, 48, 62, 32, 87, 73, 84, 72, 73, 78, 32, 84, 82, 85, 69, 32, 70, 65, 76, 83, 69, 32, 67, 69, 76, 76, 83, 32, 67, 69, 76, 76, 43, 32, 70, 43, 32, 70, 45, 32, 70, 42, 32, 70, 47, 32, 70, 77]
  ++ [73, 78, 32, 70, 77, 65, 88, 32, 70, 78, 69, 71, 65, 84, 69, 32, 70, 65, 66, 83, 32, 70, 83, 81, 82, 84, 32, 70, 76, 79, 79, 82, 32, 70, 60, 32, 70, 61, 32, 83, 62, 70, 32, 70, 62, 83, 32, 64, 32, 33, 32, 43, 33, 32, 67, 64, 32, 67, 33, 32, 72, 69, 82, 69]
  ++ [32, 65, 76, 76, 79, 84, 32, 44, 32, 67, 44, 32, 65, 76, 73, 71, 78, 32, 66, 65, 83, 69, 32, 68, 69, 67, 73, 77, 65, 76, 32, 72, 69, 88, 32, 62, 82, 32, 82, 62, 32, 82, 64, 32, 73, 32, 74, 32, 85, 78, 76, 79, 79, 80, 32, 76, 69, 65, 86, 69, 32, 73, 70, 32]
  ++ [69, 76, 83, 69, 32, 84, 72, 69, 78, 32, 66, 69, 71, 73, 78, 32, 65, 71, 65, 73, 78, 32, 85, 78, 84, 73, 76, 32, 87, 72, 73, 76, 69, 32, 82, 69, 80, 69, 65, 84, 32, 68, 79, 32, 76, 79, 79, 80, 32, 43, 76, 79, 79, 80, 32, 82, 69, 67, 85, 82, 83, 69, 32, 58]
  ++ [32, 59, 32, 73, 77, 77, 69, 68, 73, 65, 84, 69, 32, 67, 79, 78, 83, 84, 65, 78, 84, 32, 86, 65, 82, 73, 65, 66, 76, 69, 32, 67, 82, 69, 65, 84, 69, 32, 68, 79, 69, 83, 62, 32, 77, 65, 82, 75, 69, 82, 32, 39, 32, 91, 39, 93, 32, 76, 73, 84, 69, 82, 65, 76]
  ++ [32, 80, 79, 83, 84, 80, 79, 78, 69, 32, 91, 32, 93, 32, 69, 88, 69, 67, 85, 84, 69, 32, 67, 72, 65, 82, 32, 91, 67, 72, 65, 82, 93, 32, 40, 32, 92, 32, 46, 34, 32, 69, 77, 73, 84, 32, 67, 82, 32, 83, 80, 65, 67, 69, 32, 46, 32, 84, 89, 80, 69, 32, 75, 69]
  ++ [89, 32, 84, 72, 82, 79, 87, 32, 65, 66, 79, 82, 84]
def ctlL : List UInt8 := [73, 70, 32, 69, 76, 83, 69, 32, 84, 72, 69, 78, 32, 66, 69, 71, 73, 78, 32, 65, 71, 65, 73, 78, 32, 85, 78, 84, 73, 76, 32, 87, 72, 73, 76, 69, 32, 82, 69, 80, 69, 65, 84, 32, 68, 79, 32, 76, 79, 79, 80, 32, 43, 76, 79, 79, 80, 32, 82, 69, 67, 85, 82, 83]
  ++ [69, 32, 59, 32, 68, 79, 69, 83, 62, 32, 91, 39, 93, 32, 76, 73, 84, 69, 82, 65, 76, 32, 80, 79, 83, 84, 80, 79, 78, 69, 32, 91, 67, 72, 65, 82, 93]
def opNamesL : List (List UInt8) := [
  [69, 88, 73, 84],
  [40, 76, 73, 84, 41],
  [40, 66, 82, 65, 78, 67, 72, 41],
  [40, 48, 66, 82, 65, 78, 67, 72, 41],
  [40, 68, 79, 41],
  [40, 76, 79, 79, 80, 41],
  [40, 43, 76, 79, 79, 80, 41],
  [40, 86, 65, 82, 41],
  [40, 68, 79, 69, 83, 41],
  [40, 84, 69, 88, 84, 41],
  [40, 77, 65, 82, 75, 41],
  [67, 79, 77, 80, 73, 76, 69, 44],
  [68, 85, 80],
  [68, 82, 79, 80],
  [83, 87, 65, 80],
  [79, 86, 69, 82],
  [82, 79, 84],
  [78, 73, 80],
  [84, 85, 67, 75],
  [63, 68, 85, 80],
  [50, 68, 85, 80],
  [50, 68, 82, 79, 80],
  [50, 83, 87, 65, 80],
  [50, 79, 86, 69, 82],
  [80, 73, 67, 75],
  [82, 79, 76, 76],
  [68, 69, 80, 84, 72],
  [43],
  [45],
  [42],
  [47],
  [77, 79, 68],
  [47, 77, 79, 68],
  [42, 47],
  [42, 47, 77, 79, 68],
  [49, 43],
  [49, 45],
  [50, 42],
  [50, 47],
  [78, 69, 71, 65, 84, 69],
  [65, 66, 83],
  [77, 73, 78],
  [77, 65, 88],
  [65, 78, 68],
  [79, 82],
  [88, 79, 82],
  [73, 78, 86, 69, 82, 84],
  [76, 83, 72, 73, 70, 84],
  [82, 83, 72, 73, 70, 84],
  [61],
  [60, 62],
  [60],
  [62],
  [85, 60],
  [48, 61],
  [48, 60],
  [48, 60, 62],
  [48, 62],
  [87, 73, 84, 72, 73, 78],
  [84, 82, 85, 69],
  [70, 65, 76, 83, 69],
  [67, 69, 76, 76, 83],
  [67, 69, 76, 76, 43],
  [70, 43],
  [70, 45],
  [70, 42],
  [70, 47],
  [70, 77, 73, 78],
  [70, 77, 65, 88],
  [70, 78, 69, 71, 65, 84, 69],
  [70, 65, 66, 83],
  [70, 83, 81, 82, 84],
  [70, 76, 79, 79, 82],
  [70, 60],
  [70, 61],
  [83, 62, 70],
  [70, 62, 83],
  [64],
  [33],
  [43, 33],
  [67, 64],
  [67, 33],
  [72, 69, 82, 69],
  [65, 76, 76, 79, 84],
  [44],
  [67, 44],
  [65, 76, 73, 71, 78],
  [66, 65, 83, 69],
  [68, 69, 67, 73, 77, 65, 76],
  [72, 69, 88],
  [62, 82],
  [82, 62],
  [82, 64],
  [73],
  [74],
  [85, 78, 76, 79, 79, 80],
  [76, 69, 65, 86, 69],
  [73, 70],
  [69, 76, 83, 69],
  [84, 72, 69, 78],
  [66, 69, 71, 73, 78],
  [65, 71, 65, 73, 78],
  [85, 78, 84, 73, 76],
  [87, 72, 73, 76, 69],
  [82, 69, 80, 69, 65, 84],
  [68, 79],
  [76, 79, 79, 80],
  [43, 76, 79, 79, 80],
  [82, 69, 67, 85, 82, 83, 69],
  [58],
  [59],
  [73, 77, 77, 69, 68, 73, 65, 84, 69],
  [67, 79, 78, 83, 84, 65, 78, 84],
  [86, 65, 82, 73, 65, 66, 76, 69],
  [67, 82, 69, 65, 84, 69],
  [68, 79, 69, 83, 62],
  [77, 65, 82, 75, 69, 82],
  [39],
  [91, 39, 93],
  [76, 73, 84, 69, 82, 65, 76],
  [80, 79, 83, 84, 80, 79, 78, 69],
  [91],
  [93],
  [69, 88, 69, 67, 85, 84, 69],
  [67, 72, 65, 82],
  [91, 67, 72, 65, 82, 93],
  [40],
  [92],
  [46, 34],
  [69, 77, 73, 84],
  [67, 82],
  [83, 80, 65, 67, 69],
  [46],
  [84, 89, 80, 69],
  [75, 69, 89],
  [84, 72, 82, 79, 87],
  [65, 66, 79, 82, 84]]
def ctlNamesL : List (List UInt8) := [
  [73, 70],
  [69, 76, 83, 69],
  [84, 72, 69, 78],
  [66, 69, 71, 73, 78],
  [65, 71, 65, 73, 78],
  [85, 78, 84, 73, 76],
  [87, 72, 73, 76, 69],
  [82, 69, 80, 69, 65, 84],
  [68, 79],
  [76, 79, 79, 80],
  [43, 76, 79, 79, 80],
  [82, 69, 67, 85, 82, 83, 69],
  [59],
  [68, 79, 69, 83, 62],
  [91, 39, 93],
  [76, 73, 84, 69, 82, 65, 76],
  [80, 79, 83, 84, 80, 79, 78, 69],
  [91, 67, 72, 65, 82, 93]]
def strsL (l : List (List UInt8)) : List ByteArray := l.map fun x => ⟨x.toArray⟩
def opNames : List ByteArray := strsL opNamesL
def ctlNames : List ByteArray := strsL ctlNamesL
theorem fields_all : Lib.fields allL = opNamesL := by decide +kernel
theorem fields_ctl : Lib.fields ctlL = ctlNamesL := by decide +kernel
theorem opNames_len : opNames.length = 137 := by decide +kernel
theorem ctlNames_len : ctlNames.length = 18 := by decide +kernel
def nowL : List ByteArray := ctlNames ++ [⟨#[91]⟩, ⟨#[40]⟩, ⟨#[92]⟩, ⟨#[46, 34]⟩]
def onlyM : List ByteArray := [⟨#[69, 88, 73, 84]⟩, ⟨#[62, 82]⟩, ⟨#[82, 62]⟩, ⟨#[82, 64]⟩, ⟨#[73]⟩, ⟨#[74]⟩, ⟨#[85, 78, 76, 79, 79, 80]⟩, ⟨#[76, 69, 65, 86, 69]⟩]
def onlyL : List ByteArray := ctlNames ++ onlyM

/-- What the calls tell. -/
def isR (op : Int) : Bool := decide (1 ≤ op ∧ op ≤ 137)
def nm (k : Nat) : ByteArray := opNames.getD k ByteArray.empty
def nameR (op : Int) : ByteArray := if 1 ≤ op ∧ op ≤ 137 then nm (op - 1).toNat else ByteArray.empty
def innerR (op : Int) : Bool := decide (2 ≤ op ∧ op ≤ 11)
def nowR (op : Int) : Bool := decide (98 ≤ op ∧ op ≤ 109 ∨ op = 111 ∨ op = 116 ∨ 119 ≤ op ∧ op ≤ 122 ∨ 126 ≤ op ∧ op ≤ 129)
def onlyR (op : Int) : Bool := decide (op = 1 ∨ 91 ≤ op ∧ op ≤ 109 ∨ op = 111 ∨ op = 116 ∨ 119 ≤ op ∧ op ≤ 121 ∨ op = 126)
def wideR (op : Int) : Bool := decide (2 ≤ op ∧ op ≤ 8 ∨ 10 ≤ op ∧ op ≤ 11)

theorem nm_size : ∀ k, k < 137 → 0 < (nm k).size ∧ (nm k).size ≤ 10 := by decide +kernel
theorem nm_inner : ∀ k, k < 137 → (decide (1 < (nm k).size) && Lib.hasPrefix (nm k).data.toList [40]) = decide (1 ≤ k ∧ k ≤ 10) := by decide +kernel
theorem nm_now : ∀ k, k < 137 → Lib.containsS nowL (nm k) = nowR (k + 1) := by decide +kernel
theorem nm_only : ∀ k, k < 137 → Lib.containsS onlyL (nm k) = onlyR (k + 1) := by decide +kernel
theorem nm_does : ∀ k, k < 137 → Lib.containsS [⟨#[40, 68, 79, 69, 83, 41]⟩] (nm k) = decide (k = 8) := by decide +kernel
/-- Where a name stands, first. -/
def nmIdx (f : ByteArray) : Nat := opNames.findIdx (fun x => decide (x = f))
theorem nm_idx : ∀ k, k < 137 → nmIdx (nm k) = k := by decide +kernel
theorem nm_apart {j k : Nat} (hj : j < 137) (hk : k < 137) (h : nm j = nm k) : j = k := by
  have := nm_idx j hj
  rw [h, nm_idx k hk] at this
  exact this.symm
theorem nmIdx_le (f : ByteArray) : nmIdx f ≤ 137 := by
  have := List.findIdx_le_length (p := fun x => decide (x = f)) (xs := opNames)
  rwa [opNames_len] at this
theorem nmIdx_at {f : ByteArray} (h : nmIdx f < 137) : nm (nmIdx f) = f := by
  have h2 : nmIdx f < opNames.length := by rw [opNames_len]; exact h
  have := List.findIdx_getElem (w := h2)
  simp only [decide_eq_true_eq] at this
  rw [nm, List.getD_eq_getElem?_getD, List.getElem?_eq_getElem h2]
  exact this
theorem nmIdx_none {f : ByteArray} (h : ∀ k, k < 137 → nm k ≠ f) : nmIdx f = 137 := by
  have := nmIdx_le f
  rcases Nat.lt_or_ge (nmIdx f) 137 with h1 | h1
  · exact absurd (nmIdx_at h1) (h _ h1)
  · omega
/-- The number of a (folded) name. -/
def findR (f : ByteArray) : Int := if nmIdx f < 137 ∧ innerR (nmIdx f + 1) = false then nmIdx f + 1 else 0
/-- The table's: of inner ones too. -/
def tabR (f : ByteArray) : Int := if nmIdx f < 137 then nmIdx f + 1 else 0
theorem nameR_at (k : Nat) (h : k < 137) : nameR (k + 1) = nm k := by
  rw [nameR, if_pos (by omega)]
  congr 1
  omega
theorem nameR_no {op : Int} (h : ¬ (1 ≤ op ∧ op ≤ 137)) : nameR op = ByteArray.empty := by rw [nameR, if_neg h]
theorem is_at {op : Int} (h : isR op = true) : ∃ k : Nat, k < 137 ∧ op = k + 1 := by
  simp [isR] at h
  exact ⟨(op - 1).toNat, by omega, by omega⟩
theorem inner_is (op : Int) : (isR op && decide (1 < (nameR op).size) && Lib.hasPrefix (nameR op).data.toList [40]) = innerR op := by
  cases h : isR op with
  | true =>
    obtain ⟨k, hk, rfl⟩ := is_at h
    rw [nameR_at k hk, Bool.true_and, nm_inner k hk, innerR]
    simp only [decide_eq_decide]
    omega
  | false =>
    simp [isR] at h
    simp [innerR]
    omega
theorem now_is (op : Int) : (isR op && Lib.containsS nowL (nameR op)) = nowR op := by
  cases h : isR op with
  | true =>
    obtain ⟨k, hk, rfl⟩ := is_at h
    rw [nameR_at k hk, Bool.true_and, nm_now k hk]
  | false =>
    simp [isR] at h
    simp [nowR]
    omega
theorem only_is (op : Int) : (isR op && Lib.containsS onlyL (nameR op)) = onlyR op := by
  cases h : isR op with
  | true =>
    obtain ⟨k, hk, rfl⟩ := is_at h
    rw [nameR_at k hk, Bool.true_and, nm_only k hk]
  | false =>
    simp [isR] at h
    simp [onlyR]
    omega
theorem wide_is (op : Int) : (innerR op && !(isR op && Lib.containsS [⟨#[40, 68, 79, 69, 83, 41]⟩] (nameR op))) = wideR op := by
  cases h : isR op with
  | true =>
    obtain ⟨k, hk, rfl⟩ := is_at h
    rw [nameR_at k hk, Bool.true_and, nm_does k hk, innerR, wideR, Bool.eq_iff_iff]
    simp
    omega
  | false =>
    simp [isR] at h
    rw [Bool.false_and, Bool.not_false, Bool.and_true, innerR, wideR]
    simp only [decide_eq_decide]
    omega
/-- Where each name begins. -/
def startL : List Nat := [0, 5, 11, 20, 30, 35, 42, 50, 56, 63, 70, 77, 86, 90, 95, 100, 105, 109, 113, 118, 123, 128, 134, 140, 146, 151, 156, 162, 164, 166, 168, 170, 174, 179, 182, 188, 191, 194, 197, 200, 207, 211, 215, 219, 223, 226, 230, 237, 244, 251, 253, 256, 258, 260, 263, 266, 269, 273, 276, 283, 288, 294, 300, 306, 309, 312, 315, 318, 323, 328, 336, 341, 347, 353, 356, 359, 363, 367, 369, 371, 374, 377, 380, 385, 391, 393, 396, 402, 407, 415, 419, 422, 425, 428, 430, 432, 439, 445, 448, 453, 458, 464, 470, 476, 482, 489, 492, 497, 503, 511, 513, 515, 525, 534, 543, 550, 556, 563, 565, 569, 577, 586, 588, 590, 598, 603, 610, 612, 614, 617, 622, 625, 631, 633, 638, 642, 648]
def startN (k : Nat) : Nat := startL.getD k 0
def allI (k : Nat) : Int := ((allL.getD k 0).toNat : Int)
theorem allL_len : allL.length = 653 := by decide +kernel
theorem all_in : ∀ n, n < 137 → ∀ j, j < (nm n).size → allL.getD (startN n + j) 0 ≠ 32 := by decide +kernel
theorem all_sep : ∀ n, n < 136 → allL.getD (startN n + (nm n).size) 0 = 32 := by decide +kernel
theorem all_next : ∀ n, n < 136 → startN (n + 1) = startN n + (nm n).size + 1 := by decide +kernel
theorem all_end : startN 136 + (nm 136).size = 653 := by decide +kernel
theorem all_cut : ∀ n, n < 137 → (allL.drop (startN n)).take (nm n).size = (nm n).data.toList := by decide +kernel
theorem all_lt : ∀ n, n < 137 → startN n + (nm n).size ≤ 653 := by decide +kernel
theorem all_lt2 : ∀ n, n < 136 → startN n + (nm n).size < 653 := by decide +kernel
end Go.Proofs.YtappfhjknihboaaGreatDoor
