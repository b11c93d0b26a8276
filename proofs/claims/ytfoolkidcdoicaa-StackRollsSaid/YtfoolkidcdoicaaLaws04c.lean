/- The walks of StackRolls and StackParts. -/
import Derived.Test.YtfoolkidcdoicaaAwake04
namespace Go.Proofs.Ytfoolkidcdoicaa
open Go.RowKit

/-- The upper part, from the place p on, turned by i. -/
def rotS (l : List Int) (p i : Nat) : List Int := l.take p ++ ((l.drop p).drop i ++ (l.drop p).take i)
theorem rotS_len (l : List Int) (p i : Nat) (hp : p ≤ l.length) : (rotS l p i).length = l.length := by
  simp only [rotS, List.length_append, List.length_take, List.length_drop]
  omega
theorem rotS_0 (l : List Int) (p : Nat) : rotS l p 0 = l := by simp [rotS]
theorem rotS_all (l : List Int) (p i : Nat) (h : l.length ≤ p + i) : rotS l p i = l := by
  have h1 : (l.drop p).drop i = [] := by
    rw [List.drop_drop]
    exact List.drop_eq_nil_of_le (by omega)
  have h2 : (l.drop p).take i = l.drop p := List.take_of_length_le (by rw [List.length_drop]; omega)
  rw [rotS, h1, h2, List.nil_append, List.take_append_drop]
theorem roll_at (l : List Int) (k : Nat) (h : k < l.length) : atE l.length k = 0 ∧ (atR l.length k).toNat = l.length - 1 - k := by
  constructor
  · rw [atE, if_pos (by omega)]
  · rw [atR, if_pos (by omega)]
    omega
theorem roll_rot (l : List Int) (p i k : Nat) (hk : l.length = p + k + 1) (hi : i ≤ k) : rollR (rotS l p i) k = rotS l p (i + 1) := by
  have hl := rotS_len l p i (by omega)
  obtain ⟨e1, e2⟩ := roll_at (rotS l p i) k (by omega)
  rw [rollR, if_pos e1, e2, hl, show l.length - 1 - k = p by omega]
  have hd : (l.drop p).length = k + 1 := by simp; omega
  obtain ⟨x, hx⟩ : ∃ x, (l.drop p).drop i = x :: (l.drop p).drop (i + 1) := ⟨_, List.drop_eq_getElem_cons (by omega)⟩
  have ht : (l.drop p).take (i + 1) = (l.drop p).take i ++ [x] := by
    rw [List.take_add, hx]
    rfl
  have hp : (l.take p).length = p := by simp; omega
  rw [rotS, rotS, hx, ht]
  generalize l.take p = a at hp
  generalize (l.drop p).drop (i + 1) = b
  generalize (l.drop p).take i = d
  subst hp
  simp [List.drop_append, List.take_append]
theorem roll_top (l : List Int) (k : Nat) (h : k < l.length) : (rollR l k).getD (l.length - 1) 0 = pickR l k := by
  obtain ⟨e1, e2⟩ := roll_at l k h
  rw [rollR, pickR, if_pos e1, if_pos e1, e2]
  obtain ⟨p, hp⟩ : ∃ p, l.length - 1 - k = p := ⟨_, rfl⟩
  have hpl : p < l.length := by omega
  rw [hp, List.drop_eq_getElem_cons hpl]
  simp only [List.take_succ_cons, List.take_zero]
  have h1 : (l.take p ++ l.drop (p + 1)).length = l.length - 1 := by simp; omega
  rw [List.getD_eq_getElem?_getD, List.getElem?_append_right (by omega), h1, Nat.sub_self]
  simp [List.getD_eq_getElem?_getD, List.getElem?_eq_getElem hpl]

set_option maxHeartbeats 1000000 in
set_option maxRecDepth 100000 in
theorem StackRolls_walk (A : Option Addr) (c : Nat) (n : Int) (l : List Int) (w : World) (hx : RdI w .i64 A c l) (hn0 : 0 ≤ n) (hn1 : n < 256) :
    Calls Try.prog 6 #[.slice A l.length c, .int .u8 n] w fun e w' => e = .returned (.bool true) ∧ Below w.heap.size w w' := by
  have HX := Lib.hid hx
  clear hx
  go_enter Try.func6, Try.ntmps6
  go_wp2_with fail
  refine (awake_any w).mono ?_
  rintro e w1 ⟨rfl, hb⟩
  (replace HX := Lib.hid (Rd.below (Hid.out HX) hb))
  have HB := Lib.hid hb
  clear hb
  by_cases h1 : 60 < l.length
  · go_wp2
    go_ret
    exact ⟨rfl, HB.out⟩
  by_cases h2 : l.length = 0
  · have b2 : ((l.length : Int) == 0) = true := by simpa using h2
    go_wp2
    go_ret
    exact ⟨rfl, HB.out⟩
  obtain ⟨m, rfl⟩ := Int.eq_ofNat_of_zero_le hn0
  have hk : (m : Int).tmod (l.length : Int) = ((m % l.length : Nat) : Int) := by rw [Int.tmod_eq_emod_of_nonneg (by omega)]; rfl
  have hkl : m % l.length < l.length := Nat.mod_lt _ (by omega)
  generalize m % l.length = k at hk hkl
  obtain ⟨p, hp⟩ : ∃ p, l.length = p + k + 1 := ⟨l.length - 1 - k, by omega⟩
  have HP := Lib.hid hp
  clear hp
  have b2 : ((l.length : Int) == 0) = false := by simpa using h2
  go_wp2_with fail
  go_loopw [7, 8] (fun cur i wr => ∃ (Ac : Option Addr) (cc j : Nat), cur = .slice Ac l.length cc ∧ i = .int .i64 j ∧ j ≤ k + 1 ∧ Hid (RdI wr .i64 Ac cc (rotS l p j)) ∧ Hid (Rd wr A l.length c 1 (nums .i64 l)) ∧ Hid (Below w.heap.size w wr)) (fun _ i _ => k + 1 - (intOf i).toNat)
  case atStart => exact ⟨A, c, 0, rfl, rfl, by omega, Lib.hid (by rw [rotS_0]; exact HX.out), HX, HB⟩
  case round =>
    clear HX HB
    obtain ⟨Ac, cc, j, rfl, rfl, hj, HC, HX, HB⟩ := hrel
    have hp := HP.out
    have hln := rotS_len l p j (by omega)
    by_cases hlt : j ≤ k
    · have hkn : k < (rotS l p j).length := by omega
      have ha := roll_at _ k hkn
      have hrr := roll_rot l p j k hp hlt
      have hrt := roll_top _ k hkn
      rw [hrr, hln] at hrt
      have hln2 := rotS_len l p (j + 1) (by omega)
      have HRR := Lib.hid hrr
      have HA := Lib.hid ha.1
      have HL := Lib.hid hln
      clear ha hrr hp hln hkn
      go_wp2_with fail
      refine (Pick_is Ac cc k (rotS l p j) _ l.length _ 0 HL.out rfl HA.out HC.out).mono ?_
      rintro e w2 ⟨rfl, hb⟩
      (replace HC := Lib.hid (Rd.below (Hid.out HC) hb); replace HX := Lib.hid (Rd.below (Hid.out HX) hb))
      have HB2 := Lib.hid (below_two HB.out hb)
      clear hb HB
      go_wp2_with fail
      refine (Roll_is Ac cc k (rotS l p j) _ l.length _ 0 HL.out HRR.out HA.out HC.out (by omega)).mono ?_
      rintro e w3 ⟨A1, c1, rfl, hr, hb⟩
      rw [hln2]
      (replace HX := Lib.hid (Rd.below (Hid.out HX) hb))
      have HB3 := Lib.hid (below_two HB2.out hb)
      have HR := Lib.hid hr
      obtain ⟨ad, rfl, hcell⟩ := RdI.all hr (by omega)
      have hc2 := hcell (l.length - 1) (by omega)

      rw [hrt] at hc2
      have g1 : 1 ≤ l.length := by omega
      have HRT := Lib.hid hrt
      generalize pickR (rotS l p j) k = y at hc2 ⊢
      clear hb hr hcell HB2 HC hrt HRT
      go_wp2
      go_roundw
      case rel => exact ⟨some ad, c1, j + 1, rfl, by go_num, by omega, HR, HX, HB3⟩
      case measure => simp [intOf] <;> omega
    · obtain rfl : j = k + 1 := by omega
      clear hln
      rw [rotS_all l p (k + 1) (by omega)] at HC
      clear hp
      go_wp2_with fail
      refine (Same_is Ac A cc c l l wr l.length l.length true rfl rfl (by simp) HC.out HX.out).mono ?_
      rintro e w8 ⟨rfl, hb⟩
      have HB := Lib.hid (below_two HB.out hb)
      clear hb
      go_wp2
      go_ret
      exact ⟨rfl, HB.out⟩
end Go.Proofs.Ytfoolkidcdoicaa
