
/- The closure of rle.Take: is a byte the last one that is out? -/
import Derived.Test.YticebanhccgglaaDoorFirst17
namespace Go.Proofs.YticebanhccgglaaDoor
open Go.RowKit

set_option maxHeartbeats 1000000 in
theorem Last_any (B : Nat) (A : Option Addr) (c N : Nat) (out : List Int) (y : Int) (b : Bool) (w : World) (hN : out.length = N) (hc : w.cell? ⟨B, 0, none⟩ = some (.slice A N c)) (hx : RdI w .u8 A c out) (hlen : N ≤ 1000000) (hb : decide (out.getLast? = some y) = b) :
    Calls Tryd.prog 16 #[.int .u8 y, .pointer (some ⟨B, 0, none⟩)] w fun e w' => e = .returned (.bool b) ∧ w = w' := by
  have HX := Lib.hid hx
  have HN := Lib.hid hN
  clear hx hN
  by_cases h0 : N = 0
  · have hb2 : b = false := by
      rw [← hb, List.eq_nil_of_length_eq_zero (HN.out.trans h0)]
      rfl
    subst hb2
    have b0 : ¬ (0 : Int) < (N : Int) := by omega
    clear h0 hb
    go_enter Tryd.func16, Tryd.ntmps16
    go_wp2
    go_ret
    exact ⟨rfl, rfl⟩
  · obtain ⟨K, hK⟩ : ∃ K, N = K + 1 := ⟨N - 1, by omega⟩
    obtain ⟨ad, rfl, e0⟩ := RdI.at_ HX.out (show K < out.length by rw [HN.out]; omega)
    obtain ⟨z, hz⟩ : ∃ z, out.getD K 0 = z := ⟨_, rfl⟩
    rw [hz] at e0
    have hlast : out.getLast? = some z := by
      rw [List.getLast?_eq_getElem?, HN.out, hK, Nat.add_sub_cancel, ← hz, List.getD_eq_getElem?_getD, List.getElem?_eq_getElem (by rw [HN.out]; omega)]
      rfl
    have hbz : b = (z == y) := by
      rw [← hb, hlast]
      by_cases h : z = y
      · simp [h]
      · simp [h]
    have eK : (N : Int) - 1 = (K : Int) := by omega
    have b0 : (0 : Int) < (N : Int) := by omega
    have b1 : (0 : Int) ≤ (K : Int) := by omega
    have b2 : (K : Int) < (N : Int) := by omega
    have HBZ := Lib.hid hbz
    clear h0 hb hz hlast hbz hK
    go_enter Tryd.func16, Tryd.ntmps16
    go_wp2
    go_ret
    rw [HBZ.out]
    exact ⟨rfl, rfl⟩
end Go.Proofs.YticebanhccgglaaDoor
