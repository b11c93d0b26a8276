/- Package stack: what each call does. -/
import Derived.Test.YtfoolkidcdoicaaCat
import Derived.Deep.QuietTactic
import Derived.BigQuiet
import Derived.StillTailTactics
namespace Go.Proofs.Ytfoolkidcdoicaa
open Go.RowKit

theorem ret_bool {a b : Bool} (h : a = b) : Ending.returned (.bool a) = .returned (.bool b) := by rw [h]

/-- The place of the value that has some above it, and what is thrown. -/
def atR (n : Nat) (i : Int) : Int := if 0 ≤ i ∧ i < n then n - 1 - i else 0
def atE (n : Nat) (i : Int) : Int := if 0 ≤ i ∧ i < n then 0 else -4

set_option maxHeartbeats 400000 in
theorem at1_any (p q : Addr) (A : Option Addr) (n c : Nat) (i : Int) (b : Bool) (w : World) (hb : decide (0 ≤ i ∧ i < n) = b) (hp : w.cell? p = some (.int .i64 i)) (hq : w.cell? q = some (.slice A n c)) :
    Calls Try.prog 21 #[.pointer (some p), .pointer (some q)] w fun e w' => e = .returned (.bool b) ∧ w = w' := by
  have HB := Lib.hid hb
  clear hb
  go_enter Try.func21, Try.ntmps21
  go_wp2
  · have hq2 := HB.out
    go_ret
    exact ⟨ret_bool (by rw [← hq2]; simp; omega), rfl⟩
  · have hq2 := HB.out
    go_ret
    exact ⟨ret_bool (by rw [← hq2]; simp; omega), rfl⟩

set_option maxHeartbeats 400000 in
theorem at_any (A : Option Addr) (n c : Nat) (i : Int) (w : World) (hn : n ≤ c) (hc : c ≤ maxLen) :
    Calls Try.prog 19 #[.slice A n c, .int .i64 i] w fun e w' => e = .returned (.tuple #[.int .i64 (atR n i), .int .i64 (atE n i)]) ∧ Below w.heap.size w w' := by
  have hmf : ∀ (fn : Fn) (first cap : Array Value) (w : World), (Instr.makeFunc fn first cap).run Try.prog w = .ok (.func fn first cap) w := fun _ _ _ _ => rfl
  unfold maxLen at hc
  by_cases h : 0 ≤ i ∧ i < n
  · rw [atR, atE, if_pos h, if_pos h]
    obtain ⟨h1, h2⟩ := h
    go_enter Try.func19, Try.ntmps19
    go_wp2_with (go_at_call 21; refine (at1_any _ _ A n c i true _ (by simp; omega) (by simp [go_sem]) (by simp [go_sem])).mono ?_; rintro e w' ⟨rfl, rfl⟩)
    go_ret2
    exact ⟨rfl, ((Below.refl _ _).alloc (Nat.le_refl _) _).alloc (by simp) _⟩
  · rw [atR, atE, if_neg h, if_neg h]
    have hd : decide (0 ≤ i ∧ i < n) = false := decide_eq_false h
    have HD := Lib.hid hd
    clear h hd
    go_enter Try.func19, Try.ntmps19
    go_wp2_with (go_at_call 21; refine (at1_any _ _ A n c i false _ HD.out (by simp [go_sem]) (by simp [go_sem])).mono ?_; rintro e w' ⟨rfl, rfl⟩)
    go_ret2
    exact ⟨rfl, ((Below.refl _ _).alloc (Nat.le_refl _) _).alloc (by simp) _⟩

set_option maxHeartbeats 400000 in
theorem Pick_any (A : Option Addr) (c : Nat) (i : Int) (l : List Int) (w : World) (hx : RdI w .i64 A c l) :
    Calls Try.prog 14 #[.slice A l.length c, .int .i64 i] w fun e w' => e = .returned (.tuple #[.int .i64 (if atE l.length i = 0 then l.getD (atR l.length i).toNat 0 else 0), .int .i64 (atE l.length i)]) ∧ Below w.heap.size w w' := by
  have hn := hx.le
  have hc := hx.cap
  have HX := Lib.hid hx
  by_cases h : 0 ≤ i ∧ i < l.length
  · have e1 : atE l.length i = 0 := by rw [atE, if_pos h]
    have e2 : atR l.length i = l.length - 1 - i := by rw [atR, if_pos h]
    rw [if_pos e1, e1, e2]
    obtain ⟨k, hk⟩ : ∃ k : Nat, (l.length : Int) - 1 - i = k := ⟨(l.length - 1 - i).toNat, by omega⟩
    rw [hk, Int.toNat_natCast]
    have hkl : k < l.length := by omega
    obtain ⟨ad, rfl, hcell⟩ := hx.all (by omega)
    have hck := hcell k hkl
    have E1 := Lib.hid e1
    have E2 := Lib.hid (e2.trans hk)
    clear hx hcell hk e1 e2 h
    generalize l.getD k 0 = x at hck ⊢
    go_enter Try.func14, Try.ntmps14
    go_wp2_with fail
    refine (at_any (some ad) l.length c i _ hn hc).mono ?_
    rintro e w1 ⟨rfl, hb⟩
    rw [E1.out, E2.out]
    have hck2 := (hb.cell (World.block_lt_of_cell? w _ hck)).trans hck
    have HB := Lib.hid hb
    unfold maxLen at hc
    clear hb hck
    go_wp2
    go_ret2
    exact ⟨rfl, HB.out⟩
  · have e1 : atE l.length i = -4 := by rw [atE, if_neg h]
    have e2 : atR l.length i = 0 := by rw [atR, if_neg h]
    rw [if_neg (by rw [e1]; decide), e1]
    have E1 := Lib.hid e1
    have E2 := Lib.hid e2
    clear e1 e2 h hx
    go_enter Try.func14, Try.ntmps14
    go_wp2_with fail
    refine (at_any A l.length c i _ hn hc).mono ?_
    rintro e w1 ⟨rfl, hb⟩
    rw [E1.out, E2.out]
    have HB := Lib.hid hb
    clear hb
    go_wp2
    go_ret2
    exact ⟨rfl, HB.out⟩

/-- What is pushed, what is popped. -/
def pushE (n m : Nat) (depth : Int) : Int := if depth < n + m then -3 else 0
def pushR (l v : List Int) (depth : Int) : List Int := if pushE l.length v.length depth = 0 then l ++ v else []
def popE (n : Nat) (many : Int) : Int := if many < 0 ∨ (n : Int) < many then -4 else 0
def popR (l : List Int) (many : Int) : List Int := if popE l.length many = 0 then l.take (l.length - many.toNat) else []
def popT (l : List Int) (many : Int) : List Int := if popE l.length many = 0 then l.drop (l.length - many.toNat) else []

set_option maxHeartbeats 1000000 in
theorem Push_any (A B : Option Addr) (c cb : Nat) (depth : Int) (l v : List Int) (w : World) (hx : RdI w .i64 A c l) (hy : RdI w .i64 B cb v) (hl : (l.length + v.length) * 8 ≤ 140737488355328) :
    Calls Try.prog 9 #[.slice A l.length c, .int .i64 depth, .slice B v.length cb] w fun e w' => ∃ x, e = .returned (.tuple #[x, .int .i64 (pushE l.length v.length depth)]) ∧ w'.ownsRow w.heap.size 3 1 x (pushR l v depth).length (nums .i64 (pushR l v depth)) ∧ Below w.heap.size w w' := by
  have HX := Lib.hid hx
  have HY := Lib.hid hy
  clear hx hy
  by_cases h : depth < l.length + v.length
  · have e1 : pushE l.length v.length depth = -3 := by rw [pushE, if_pos h]
    have e2 : pushR l v depth = [] := by rw [pushR, e1]; rfl
    rw [e1, e2]
    clear e1 e2
    go_enter Try.func9, Try.ntmps9
    go_wp2
    go_ret2
    exact ⟨_, rfl, ⟨rfl, .inl ⟨rfl, rfl⟩⟩, Below.refl _ _⟩
  · have e1 : pushE l.length v.length depth = 0 := by rw [pushE, if_neg h]
    have e2 : pushR l v depth = l ++ v := by rw [pushR, e1, if_pos rfl]
    rw [e1, e2]
    clear e1 e2
    go_enter Try.func9, Try.ntmps9
    go_wp2_with fail
    refine (Concat2 A B c cb l v w HX.out HY.out hl).mono ?_
    rintro e w1 ⟨x, rfl, ho, hb⟩
    have HO := Lib.hid ho
    have HB := Lib.hid hb
    clear ho hb
    go_wp2
    go_ret2
    exact ⟨_, rfl, HO.out, HB.out⟩

set_option maxHeartbeats 1000000 in
theorem Pop_any (A : Option Addr) (c : Nat) (many : Int) (l : List Int) (w : World) (hx : RdI w .i64 A c l) (hm : many ≤ 9223372036854775807) :
    Calls Try.prog 11 #[.slice A l.length c, .int .i64 many] w fun e w' => ∃ A1 c1 A2 c2, e = .returned (.tuple #[.slice A1 (popR l many).length c1, .slice A2 (popT l many).length c2, .int .i64 (popE l.length many)]) ∧ RdI w' .i64 A1 c1 (popR l many) ∧ RdI w' .i64 A2 c2 (popT l many) ∧ ∃ n, w' = w.drewN n := by
  have h2 := hx.le
  have h3 := hx.cap
  unfold maxLen at h3
  have HX := Lib.hid hx
  clear hx
  by_cases h : many < 0 ∨ (l.length : Int) < many
  · have e1 : popE l.length many = -4 := by rw [popE, if_pos h]
    have e2 : popR l many = [] := by rw [popR, e1]; rfl
    have e3 : popT l many = [] := by rw [popT, e1]; rfl
    rw [e1, e2, e3]
    clear e1 e2 e3
    by_cases h0 : many < 0
    all_goals
      go_enter Try.func11, Try.ntmps11
      go_wp2
      all_goals (go_ret3; exact ⟨none, 0, none, 0, rfl, rd_nil _ _, rd_nil _ _, 0, rfl⟩)
  · have e1 : popE l.length many = 0 := by rw [popE, if_neg h]
    have e2 : popR l many = l.take (l.length - many.toNat) := by rw [popR, e1, if_pos rfl]
    have e3 : popT l many = l.drop (l.length - many.toNat) := by rw [popT, e1, if_pos rfl]
    rw [e1, e2, e3]
    obtain ⟨k, rfl⟩ := Int.eq_ofNat_of_zero_le (show 0 ≤ many by omega)
    rw [Int.toNat_natCast]
    have hk : k ≤ l.length := by omega
    have hc1 := HX.out.cut 0 (l.length - k) (l.length - k) (by omega) (by omega) (by omega)
    have hc2 := HX.out.cut (l.length - k) k k (by omega) (by omega) (by omega)
    rw [List.drop_zero] at hc1
    rw [List.take_of_length_le (by rw [List.length_drop]; omega)] at hc2
    have l1 : (l.take (l.length - k)).length = l.length - k := by simp
    have l2 : (l.drop (l.length - k)).length = k := by simp; omega
    rw [l1, l2]
    have hz : cutA A 0 (l.length - k) = A := by unfold cutA; split <;> simp [Addr.add]
    rw [hz] at hc1
    obtain ⟨m, hm2⟩ : ∃ m, l.length - k = m := ⟨_, rfl⟩
    rw [hm2] at hc1 hc2 ⊢
    have HC1 := Lib.hid hc1
    have HC2 := Lib.hid hc2
    have hlm : l.length = m + k := by omega
    clear hc1 hc2 e1 e2 e3 h l1 l2 hm2 hz
    rw [hlm]
    rw [hlm] at h2
    clear hlm hk
    go_enter Try.func11, Try.ntmps11
    go_wp2
    go_quiet (fail)
    go_wp2
    all_goals go_ret3
    all_goals
      have hc2 := HC2.out
      by_cases hk0 : k = 0
    all_goals (try (exfalso; omega))
    · subst hk0
      rw [cutA, if_pos rfl] at hc2
      exact ⟨A, m, A, 0, by simp, HC1.out.drewN, hc2.drewN, _, rfl⟩
    · rw [cutA, if_neg hk0] at hc2
      exact ⟨A, m, _, k, by simp, HC1.out.drewN, hc2.drewN, _, rfl⟩

/-- What is rolled. -/
def rollR (l : List Int) (i : Int) : List Int := if atE l.length i = 0 then l.take (atR l.length i).toNat ++ l.drop ((atR l.length i).toNat + 1) ++ (l.drop (atR l.length i).toNat).take 1 else []

set_option maxHeartbeats 1000000 in
theorem Roll_any (A : Option Addr) (c : Nat) (i : Int) (l : List Int) (w : World) (hx : RdI w .i64 A c l) (hl : l.length * 8 ≤ 140737488355328) :
    Calls Try.prog 16 #[.slice A l.length c, .int .i64 i] w fun e w' => ∃ x, e = .returned (.tuple #[x, .int .i64 (atE l.length i)]) ∧ w'.ownsRow w.heap.size 3 1 x (rollR l i).length (nums .i64 (rollR l i)) ∧ Below w.heap.size w w' := by
  have hn := hx.le
  have hc := hx.cap
  have HX := Lib.hid hx
  by_cases h : 0 ≤ i ∧ i < l.length
  · have e1 : atE l.length i = 0 := by rw [atE, if_pos h]
    have e2 : atR l.length i = l.length - 1 - i := by rw [atR, if_pos h]
    obtain ⟨k, hk⟩ : ∃ k : Nat, (l.length : Int) - 1 - i = k := ⟨(l.length - 1 - i).toNat, by omega⟩
    have hkl : k < l.length := by omega
    have e3 : rollR l i = l.take k ++ l.drop (k + 1) ++ (l.drop k).take 1 := by rw [rollR, if_pos e1, e2, hk, Int.toNat_natCast]
    rw [e1, e3]
    have E1 := Lib.hid e1
    have E2 := Lib.hid (e2.trans hk)
    have hc1 := HX.out.cut 0 k c (by omega) (by omega) (by omega)
    have hc2 := HX.out.cut (k + 1) (l.length - (k + 1)) (c - (k + 1)) (by omega) (by omega) (by omega)
    have hc3 := HX.out.cut k 1 (c - k) (by omega) (by omega) (by omega)
    rw [List.drop_zero] at hc1
    rw [List.take_of_length_le (by rw [List.length_drop]; omega)] at hc2
    have hz : cutA A 0 c = A := by unfold cutA; split <;> simp [Addr.add]
    rw [hz] at hc1
    obtain ⟨ad, rfl, _⟩ := hx.all (by omega)
    rw [cutA, if_neg (by omega)] at hc3
    have hc3 : RdI w .i64 (some (ad.add k)) (c - k) ((l.drop k).take 1) := hc3
    have hc2 : (c = k + 1 → RdI w .i64 (some ad) 0 (l.drop (k + 1))) ∧ (c ≠ k + 1 → RdI w .i64 (some ⟨ad.block, ad.off + (k + 1), none⟩) (c - (k + 1)) (l.drop (k + 1))) := by
      refine ⟨fun h => ?_, fun h => ?_⟩
      · subst h
        rw [cutA, if_pos (Nat.sub_self _), Nat.sub_self] at hc2
        exact hc2
      · rw [cutA, if_neg (by omega)] at hc2
        have e : (some ad : Option Addr).map (·.add (k + 1)) = some ⟨ad.block, ad.off + (k + 1), none⟩ := by simp [Addr.add]
        rw [e] at hc2
        exact hc2
    have HC1 := Lib.hid hc1
    have HC2 := Lib.hid hc2
    have HC3 := Lib.hid hc3
    clear hx hk e1 e2 e3 h hc1 hc2 hc3 hz
    go_enter Try.func16, Try.ntmps16
    go_wp2_with fail
    refine (at_any (some ad) l.length c i _ hn hc).mono ?_
    rintro e w1 ⟨rfl, hb⟩
    rw [E1.out, E2.out]
    have HB := Lib.hid hb
    unfold maxLen at hc
    clear hb
    go_wp2_with fail
    have b1 : (0 : Int) ≤ k := by omega
    have b2 : (k : Int) ≤ c := by omega
    have b3 : IntKind.i64.wrap ((k : Int) + 1) = (k : Int) + 1 := IntWalk.i64_in _ (by omega)
    have b4 : (0 : Int) ≤ (k : Int) + 1 := by omega
    have b5 : (k : Int) + 1 ≤ l.length := by omega
    have b6 : (k : Int) + 1 ≤ c := by omega
    have b7 : (k : Int) ≤ (k : Int) + 1 := by omega
    have b8 : ((k : Int) + 1).toNat = k + 1 := by omega
    have b9 : k ≤ c := by omega
    go_still_tail 12, (by kernel_rfl)
    change wpList _ _ _ _ _ w1.drew
    have HB := Lib.hid (HB.out.drew)
    generalize w1.drew = w2 at HB ⊢
    clear b1 b2 b3 b4 b5 b6 b7 b8 b9
    have l1 : (l.take k).length = k := by simp; omega
    have l2 : (l.drop (k + 1)).length = l.length - (k + 1) := by simp
    have l3 : ((l.drop k).take 1).length = 1 := by simp; omega
    have L1 := Lib.hid l1
    have L2 := Lib.hid l2
    have L3 := Lib.hid l3
    clear l1 l2 l3
    by_cases hck : c = k + 1
    · subst hck
      have hq := HC2.out.1 rfl
      have hq3 := HC3.out
      rw [Nat.add_sub_cancel_left] at hq3
      have HQ := Lib.hid hq
      have HQ3 := Lib.hid hq3
      clear hq hq3 HC2 HC3
      go_wp2_with fail
      refine (Concat3_len (some ad) (some ad) (some (ad.add k)) (k + 1) 0 1 k 0 1 _ _ _ w2 L1.out (by rw [L2.out]; omega) L3.out (HC1.out.below HB.out) (HQ.out.below HB.out) (HQ3.out.below HB.out) (by omega)).mono ?_
      rintro e w3 ⟨x, rfl, ho, hb⟩
      have HO := Lib.hid (own_mono ho HB.out.size)
      have HB2 := Lib.hid (below_two HB.out hb)
      clear ho hb HB
      go_wp2
      go_ret2
      exact ⟨_, rfl, HO.out, HB2.out⟩
    · have hq := HC2.out.2 hck
      have HQ := Lib.hid hq
      clear hq HC2
      go_wp2_with fail
      refine (Concat3_len (some ad) (some ⟨ad.block, ad.off + (k + 1), none⟩) (some (ad.add k)) c (c - (k + 1)) (c - k) k (l.length - (k + 1)) 1 _ _ _ w2 L1.out L2.out L3.out (HC1.out.below HB.out) (HQ.out.below HB.out) (HC3.out.below HB.out) (by omega)).mono ?_
      rintro e w3 ⟨x, rfl, ho, hb⟩
      have HO := Lib.hid (own_mono ho HB.out.size)
      have HB2 := Lib.hid (below_two HB.out hb)
      clear ho hb HB
      go_wp2
      go_ret2
      exact ⟨_, rfl, HO.out, HB2.out⟩
  · have e1 : atE l.length i = -4 := by rw [atE, if_neg h]
    have e2 : atR l.length i = 0 := by rw [atR, if_neg h]
    have e3 : rollR l i = [] := by rw [rollR, e1]; rfl
    rw [e1, e3]
    have E1 := Lib.hid e1
    have E2 := Lib.hid e2
    clear e1 e2 e3 h hx
    go_enter Try.func16, Try.ntmps16
    go_wp2_with fail
    refine (at_any A l.length c i _ hn hc).mono ?_
    rintro e w1 ⟨rfl, hb⟩
    rw [E1.out, E2.out]
    have HB := Lib.hid hb
    clear hb
    go_wp2
    go_ret2
    exact ⟨_, rfl, ⟨rfl, .inl ⟨rfl, rfl⟩⟩, HB.out⟩
end Go.Proofs.Ytfoolkidcdoicaa
