/- Plain words: a text from a place on, instead of cut. -/
import Derived.Test.YtmpmhbfaebgdgaaTake
namespace Go.Proofs.Ytmpmhbfaebgdgaa
open Go.RowKit

theorem size_from (s : ByteArray) (k : Nat) : (s.extract k s.size).size = s.size - k := by
  rw [ByteArray.size_extract]
  omega
theorem bt_from (s : ByteArray) (k i : Nat) : bt (s.extract k s.size) i = bt s (k + i) := by
  unfold bt
  by_cases h : k + i < s.size
  · rw [dif_pos (by rw [size_from]; omega), dif_pos h]
    congr 2
    exact ByteArray.getElem_extract ..
  · rw [dif_neg (by rw [size_from]; omega), dif_neg h]
theorem scan_from (s : ByteArray) (b : Int) (k : Nat) : ∀ (m i : Nat) (n : Int), s.size - (k + i) = m → scan (s.extract k s.size) b i n = scan s b (k + i) n
  | 0, i, n, h => by
    rw [scan_end (by rw [size_from]; omega), scan_end (by omega)]
  | m + 1, i, n, h => by
    have h1 : i < (s.extract k s.size).size := by rw [size_from]; omega
    have h2 : k + i < s.size := by omega
    cases hf : isFig b (bt s (k + i)) with
    | true => rw [scan_yes h1 (by rw [bt_from]; exact hf), scan_yes h2 hf, bt_from, scan_from s b k m (i + 1) _ (by omega)]; rfl
    | false => rw [scan_no h1 (by rw [bt_from]; exact hf), scan_no h2 hf]
theorem begins_from (s : ByteArray) (k : Nat) (c : Int) : begins (s.extract k s.size) c = (decide (k < s.size) && decide (bt s k = c)) := by
  unfold begins
  rw [size_from, bt_from, Nat.add_zero]
  congr 1
  simp only [decide_eq_decide]
  omega
theorem from_0 (s : ByteArray) : s.extract 0 s.size = s := ByteArray.extract_zero_size
theorem from_from (s : ByteArray) (k : Nat) : (s.extract k s.size).extract 1 (s.extract k s.size).size = s.extract (k + 1) s.size := by
  rw [size_from]
  apply ByteArray.ext
  apply Array.toList_inj.1
  rw [ext_list, ext_list, ext_list]
  rw [List.drop_take, List.drop_drop, List.take_take]
  congr 1
  omega
end Go.Proofs.Ytmpmhbfaebgdgaa
