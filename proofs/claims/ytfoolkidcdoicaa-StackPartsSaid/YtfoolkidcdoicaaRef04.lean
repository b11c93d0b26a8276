/- Package nostosref04: the same as package stack. -/
import Derived.Test.YtfoolkidcdoicaaStack
namespace Go.Proofs.Ytfoolkidcdoicaa
open Go.RowKit

set_option maxHeartbeats 1000000 in
theorem RPush_any (A B : Option Addr) (c cb : Nat) (depth : Int) (l v : List Int) (w : World) (hx : RdI w .i64 A c l) (hy : RdI w .i64 B cb v) (hl : (l.length + v.length) * 8 ≤ 140737488355328) :
    Calls Try.prog 10 #[.slice A l.length c, .int .i64 depth, .slice B v.length cb] w fun e w' => ∃ x, e = .returned (.tuple #[x, .int .i64 (pushE l.length v.length depth)]) ∧ w'.ownsRow w.heap.size 3 1 x (pushR l v depth).length (nums .i64 (pushR l v depth)) ∧ Below w.heap.size w w' := by
  have HX := Lib.hid hx
  have HY := Lib.hid hy
  clear hx hy
  by_cases h : depth < l.length + v.length
  · have e1 : pushE l.length v.length depth = -3 := by rw [pushE, if_pos h]
    have e2 : pushR l v depth = [] := by rw [pushR, e1]; rfl
    rw [e1, e2]
    clear e1 e2
    go_enter Try.func10, Try.ntmps10
    go_wp2
    go_ret2
    exact ⟨_, rfl, ⟨rfl, .inl ⟨rfl, rfl⟩⟩, Below.refl _ _⟩
  · have e1 : pushE l.length v.length depth = 0 := by rw [pushE, if_neg h]
    have e2 : pushR l v depth = l ++ v := by rw [pushR, e1, if_pos rfl]
    rw [e1, e2]
    clear e1 e2
    go_enter Try.func10, Try.ntmps10
    go_wp2_with (refine wp_app (w0 := w) rfl (.tmp 16) (.tmp 17) 22 3 (.int .i64 0) 1 8 rfl Try.underlying22 infoInt rfl (by decide) (by decide) w.heap.size _ 0 [] rfl (own_empty (heap_alloc_new _ _) (Nat.le_refl _)) A l.length c (nums .i64 l) rfl (HX.out.below ((Below.refl _ _).alloc (Nat.le_refl _) _)) (nums_one _ _) (by omega) (by simp) ((Below.refl _ _).alloc (Nat.le_refl _) _) ?_)
    intro v1 w1 ho hb _
    have ho : w1.ownsRow w.heap.size 3 1 v1 l.length (nums .i64 l) := by simpa using ho
    have HO := Lib.hid ho
    have HB := Lib.hid hb
    have HY1 := Lib.hid (HY.out.below hb)
    clear ho hb
    go_wp2_with (refine wp_app (w0 := w) rfl (.tmp 19) (.tmp 20) 22 3 (.int .i64 0) 1 8 rfl Try.underlying22 infoInt rfl (by decide) (by decide) w.heap.size _ l.length (nums .i64 l) rfl HO.out B v.length cb (nums .i64 v) rfl HY1.out (nums_one _ _) hl HB.out.size HB.out ?_)
    intro v2 w2 ho hb _
    have HO2 := Lib.hid ho
    have HB2 := Lib.hid hb
    clear ho hb
    go_wp2
    go_ret2
    refine ⟨_, rfl, ?_, HB2.out⟩
    rw [List.length_append, show nums .i64 (l ++ v) = nums .i64 l ++ nums .i64 v by simp [nums]]
    exact HO2.out

set_option maxHeartbeats 1000000 in
theorem RPop_any (A : Option Addr) (c : Nat) (many : Int) (l : List Int) (w : World) (hx : RdI w .i64 A c l) (hm : many ≤ 9223372036854775807) :
    Calls Try.prog 12 #[.slice A l.length c, .int .i64 many] w fun e w' => ∃ A1 c1 A2 c2, e = .returned (.tuple #[.slice A1 (popR l many).length c1, .slice A2 (popT l many).length c2, .int .i64 (popE l.length many)]) ∧ RdI w' .i64 A1 c1 (popR l many) ∧ RdI w' .i64 A2 c2 (popT l many) ∧ ∃ n, w' = w.drewN n := by
  have h2 := hx.le
  have h3 := hx.cap
  unfold maxLen at h3
  have HX := Lib.hid hx
  clear hx
  by_cases h : many < 0 ∨ (l.length : Int) < many
  · have e1 : popE l.length many = -4 := by rw [popE, if_pos h]
    have e2 : popR l many = [] := by rw [popR, e1]; rfl
    have e3 : popT l many = [] := by rw [popT, e1]; rfl
    rw [e1, e2, e3]
    clear e1 e2 e3
    by_cases h0 : many < 0
    all_goals
      go_enter Try.func12, Try.ntmps12
      go_wp2
      all_goals (go_ret3; exact ⟨none, 0, none, 0, rfl, rd_nil _ _, rd_nil _ _, 0, rfl⟩)
  · have e1 : popE l.length many = 0 := by rw [popE, if_neg h]
    have e2 : popR l many = l.take (l.length - many.toNat) := by rw [popR, e1, if_pos rfl]
    have e3 : popT l many = l.drop (l.length - many.toNat) := by rw [popT, e1, if_pos rfl]
    rw [e1, e2, e3]
    obtain ⟨k, rfl⟩ := Int.eq_ofNat_of_zero_le (show 0 ≤ many by omega)
    rw [Int.toNat_natCast]
    have hk : k ≤ l.length := by omega
    have hc1 := HX.out.cut 0 (l.length - k) c (by omega) (by omega) (by omega)
    have hc2 := HX.out.cut (l.length - k) k (c - (l.length - k)) (by omega) (by omega) (by omega)
    rw [List.drop_zero] at hc1
    rw [List.take_of_length_le (by rw [List.length_drop]; omega)] at hc2
    have l1 : (l.take (l.length - k)).length = l.length - k := by simp
    have l2 : (l.drop (l.length - k)).length = k := by simp; omega
    rw [l1, l2]
    have hz : cutA A 0 c = A := by unfold cutA; split <;> simp [Addr.add]
    rw [hz] at hc1
    obtain ⟨m, hm2⟩ : ∃ m, l.length - k = m := ⟨_, rfl⟩
    rw [hm2] at hc1 hc2 ⊢
    have HC1 := Lib.hid hc1
    have HC2 := Lib.hid hc2
    have hlm : l.length = m + k := by omega
    clear hc1 hc2 e1 e2 e3 h l1 l2 hm2 hz
    rw [hlm]
    rw [hlm] at h2
    clear hlm hk
    have b1 : IntKind.i64.wrap (((m + k : Nat) : Int) - k) = m := by rw [IntWalk.i64_in _ (by omega)]; omega
    have b2 : (0 : Int) ≤ m := by omega
    have b3 : (m : Int) ≤ c := by omega
    have b4 : (m : Int) ≤ (m : Int) + k := by omega
    go_enter Try.func12, Try.ntmps12
    go_wp2
    go_quiet (fail)
    go_wp2
    · go_ret3
      have hc2 := HC2.out
      have hz : c - m = 0 := by omega
      rw [cutA, if_pos hz, hz] at hc2
      have hc1 := HC1.out
      rename_i h
      rw [h] at hc1
      exact ⟨A, m, A, 0, by simp, hc1.drewN, hc2.drewN, _, rfl⟩
    · go_ret3
      have hc2 := HC2.out
      rw [cutA, if_neg (by omega)] at hc2
      exact ⟨A, c, _, c - m, by simp, HC1.out.drewN, hc2.drewN, _, rfl⟩

theorem getD_int (l : List Int) (k : Nat) (h : k < l.length) : l.getD k 0 = l[k]'h := by simp [List.getD_eq_getElem?_getD, List.getElem?_eq_getElem h]

set_option maxHeartbeats 1000000 in
theorem RPick_any (A : Option Addr) (c : Nat) (i : Int) (l : List Int) (w : World) (hx : RdI w .i64 A c l) :
    Calls Try.prog 15 #[.slice A l.length c, .int .i64 i] w fun e w' => e = .returned (.tuple #[.int .i64 (if atE l.length i = 0 then l.getD (atR l.length i).toNat 0 else 0), .int .i64 (atE l.length i)]) ∧ w = w' := by
  have hn := hx.le
  have hc := hx.cap
  unfold maxLen at hc
  by_cases h : 0 ≤ i ∧ i < l.length
  · have e1 : atE l.length i = 0 := by rw [atE, if_pos h]
    have e2 : atR l.length i = l.length - 1 - i := by rw [atR, if_pos h]
    rw [if_pos e1, e1, e2]
    obtain ⟨j, rfl⟩ := Int.eq_ofNat_of_zero_le h.1
    obtain ⟨ad, rfl, hcell⟩ := hx.all (by omega)
    obtain ⟨k, hk⟩ : ∃ k : Nat, l.length = k + 1 + j := ⟨l.length - 1 - j, by omega⟩
    have hk2 : ((l.length : Int) - 1 - j).toNat = k := by omega
    rw [hk2]
    have hck := hcell k (by omega)
    generalize l.getD k 0 = x at hck ⊢
    clear hx hcell e1 e2 h hk2
    rw [hk] at hn ⊢
    clear hk
    have b1 : decide (k + 1 + j ≤ j) = false := by simp
    go_enter Try.func15, Try.ntmps15
    go_wp2
    go_ret2
    exact ⟨rfl, rfl⟩
  · have e1 : atE l.length i = -4 := by rw [atE, if_neg h]
    rw [if_neg (by rw [e1]; decide), e1]
    clear e1 hx
    by_cases h0 : i < 0
    all_goals
      go_enter Try.func15, Try.ntmps15
      go_wp2
      go_ret2
      exact ⟨rfl, rfl⟩

/-- Same: two lists, one by one. -/
theorem Same_any (A B : Option Addr) (c cb : Nat) (l r : List Int) (b : Bool) (w : World) (hb : decide (l = r) = b) (hx : RdI w .i64 A c l) (hy : RdI w .i64 B cb r) :
    Calls Try.prog 13 #[.slice A l.length c, .slice B r.length cb] w fun e w' => e = .returned (.bool b) ∧ ∃ n, w' = w.drewN n := by
  have hn := hx.le
  have hc := hx.cap
  have hn2 := hy.le
  have hc2 := hy.cap
  unfold maxLen at hc hc2
  have HX := Lib.hid hx
  have HY := Lib.hid hy
  have HB := Lib.hid hb
  clear hx hy hb
  by_cases hl : l.length = r.length
  · rw [← hl]
    have HL := Lib.hid hl
    rw [← hl] at hn2
    clear hl
    go_enter Try.func13, Try.ntmps13
    go_wp2
    go_loopw [5] (fun i wr => ∃ k m : Nat, wr = w.drewN m ∧ i = .int .i64 k ∧ k ≤ l.length ∧ Hid (l.take k = r.take k)) (fun i _ => l.length - (intOf i).toNat)
    case atStart => exact ⟨0, 0, rfl, rfl, by omega, Lib.hid rfl⟩
    case round =>
      obtain ⟨k, m, rfl, rfl, hk, HT⟩ := hrel
      by_cases hlt : k < l.length
      · obtain ⟨ad, rfl, hcx⟩ := HX.out.all (by omega)
        obtain ⟨bd, rfl, hcy⟩ := HY.out.all (by have := HL.out; omega)
        have h1 := hcx k hlt
        have h2 := hcy k (by rw [← HL.out]; exact hlt)
        rw [getD_int _ _ hlt] at h1
        rw [getD_int _ _ (by rw [← HL.out]; exact hlt)] at h2
        have hs1 := List.take_succ_eq_append_getElem hlt
        have hs2 := List.take_succ_eq_append_getElem (l := r) (i := k) (by rw [← HL.out]; exact hlt)
        generalize l[k] = x at h1 hs1
        generalize r[k]'(by rw [← HL.out]; exact hlt) = y at h2 hs2
        have HS1 := Lib.hid hs1
        have HS2 := Lib.hid hs2
        clear hcx hcy hs1 hs2
        have b1 : (0 : Int) ≤ k := by omega
        have b2 : (k : Int) < l.length := by omega
        by_cases he : x = y
        · subst he
          go_wp2
          go_quiet (fail)
          go_wp2
          go_roundw
          case rel => exact ⟨k + 1, m + nq, rfl, by go_num, by omega, Lib.hid (by rw [HS1.out, HS2.out, HT.out])⟩
          case measure => simp [intOf] <;> omega
        · have he1 : (x == y) = false := by simpa using he
          have he2 : (x != y) = true := by simpa using he
          go_wp2
          go_quiet (fail)
          go_wp2
          go_ret
          refine ⟨ret_bool ?_, m + nq, World.drewN_drewN ..⟩
          rw [← HB.out]
          symm
          rw [decide_eq_false_iff_not]
          intro hlr
          have e1 := HS1.out
          have e2 := HS2.out
          rw [hlr, e2] at e1
          have e3 := List.append_inj_right e1 rfl
          simp at e3
          exact he e3.symm
      · obtain rfl : k = l.length := by omega
        go_wp2
        go_ret
        have ht := HT.out
        rw [List.take_length, HL.out, List.take_length] at ht
        exact ⟨ret_bool (by rw [← HB.out, ht]; simp), _, rfl⟩
  · have hd : l ≠ r := fun h => hl (by rw [h])
    have hbf : b = false := by have := HB.out; rw [decide_eq_false hd] at this; exact this.symm
    subst hbf
    have b1 : (l.length == r.length) = false := by simpa using hl
    have b2 : (l.length != r.length) = true := by simpa using hl
    clear hl hd HB
    go_enter Try.func13, Try.ntmps13
    go_wp2
    go_ret
    exact ⟨rfl, 0, rfl⟩

/-- A list's first j, without the one at k. -/
def skipL (l : List Int) (k j : Nat) : List Int := l.take (min j k) ++ (l.take j).drop (k + 1)
theorem skipL_at (l : List Int) (k : Nat) : skipL l k (k + 1) = skipL l k k := by
  unfold skipL
  rw [Nat.min_self, show min (k + 1) k = k by omega, List.drop_eq_nil_of_le (by simp; omega), List.drop_eq_nil_of_le (by simp; omega)]
theorem skipL_step (l : List Int) (k j : Nat) (h : j < l.length) (hk : j ≠ k) : skipL l k (j + 1) = skipL l k j ++ [l[j]'h] := by
  unfold skipL
  rcases Nat.lt_or_ge j k with h1 | h1
  · rw [show min (j + 1) k = j + 1 by omega, show min j k = j by omega, List.drop_eq_nil_of_le (by simp; omega), List.drop_eq_nil_of_le (by simp; omega), List.take_succ_eq_append_getElem h]
    simp
  · rw [show min (j + 1) k = k by omega, show min j k = k by omega, List.append_assoc]
    congr 1
    rw [List.take_succ_eq_append_getElem h, List.drop_append_of_le_length (by simp; omega)]
theorem skipL_end (l : List Int) (k : Nat) (h : k < l.length) : skipL l k l.length = l.take k ++ l.drop (k + 1) := by
  unfold skipL
  rw [show min l.length k = k by omega, List.take_length]
theorem skipL_len (l : List Int) (k j : Nat) : (skipL l k j).length ≤ l.length := by
  simp only [skipL, List.length_append, List.length_take, List.length_drop]
  omega

set_option maxHeartbeats 1000000 in
theorem RRoll_any (A : Option Addr) (c : Nat) (i : Int) (l : List Int) (w : World) (hx : RdI w .i64 A c l) (hl : (l.length + 1) * 8 ≤ 140737488355328) :
    Calls Try.prog 17 #[.slice A l.length c, .int .i64 i] w fun e w' => ∃ x, e = .returned (.tuple #[x, .int .i64 (atE l.length i)]) ∧ w'.ownsRow w.heap.size 3 1 x (rollR l i).length (nums .i64 (rollR l i)) ∧ Below w.heap.size w w' := by
  have hn := hx.le
  have hc := hx.cap
  unfold maxLen at hc
  have HX := Lib.hid hx
  by_cases h : 0 ≤ i ∧ i < l.length
  · have e1 : atE l.length i = 0 := by rw [atE, if_pos h]
    have e2 : atR l.length i = l.length - 1 - i := by rw [atR, if_pos h]
    obtain ⟨k, hk⟩ : ∃ k : Nat, (l.length : Int) - 1 - i = k := ⟨(l.length - 1 - i).toNat, by omega⟩
    have hkl : k < l.length := by omega
    have e3 : rollR l i = l.take k ++ l.drop (k + 1) ++ (l.drop k).take 1 := by rw [rollR, if_pos e1, e2, hk, Int.toNat_natCast]
    have e4 : rollR l i = skipL l k l.length ++ [l[k]'hkl] := by
      rw [e3, skipL_end l k hkl, List.drop_eq_getElem_cons hkl]
      rfl
    rw [e1, e4]
    obtain ⟨ad, rfl, hcell⟩ := hx.all (by omega)
    have HC := Lib.hid hcell
    have hi1 := h.1
    have hi2 : i = l.length - 1 - k := by omega
    subst hi2
    clear hx hk e1 e2 e3 e4 h hcell
    go_enter Try.func17, Try.ntmps17
    go_wp2
    go_loopw [6, 7] (fun x j wr => ∃ m : Nat, j = .int .i64 m ∧ m ≤ l.length ∧ Hid (wr.ownsRow w.heap.size 3 1 x (skipL l k m).length (nums .i64 (skipL l k m))) ∧ Hid (Below w.heap.size w wr)) (fun _ j _ => l.length - (intOf j).toNat)
    case atStart => exact ⟨0, rfl, by omega, Lib.hid (by simp [skipL, nums]; exact ⟨rfl, .inl ⟨rfl, rfl⟩⟩), Lib.hid (Below.refl _ _)⟩
    case round =>
      obtain ⟨m, rfl, hm, HO, HB⟩ := hrel
      have hle := skipL_len l k m
      by_cases hlt : m < l.length
      · have h1 := HC.out m hlt
        rw [getD_int _ _ hlt] at h1
        have h2 := (HB.out.cell (World.block_lt_of_cell? w _ h1)).trans h1
        have hs := fun hne => skipL_step l k m hlt hne
        generalize l[m] = y at h1 h2 hs
        have HS := Lib.hid hs
        clear h1 hs
        by_cases hmk : m = k
        · subst hmk
          go_wp2
          go_roundw
          case rel => exact ⟨m + 1, by go_num, by omega, by rw [skipL_at]; exact HO, HB⟩
          case measure => simp [intOf] <;> omega
        · have b1 : ((m : Int) == l.length - 1 - (l.length - 1 - k)) = false := by simp; omega
          go_wp2_with (refine wp_app1 (w0 := w) rfl (.tmp 29) (.tmp 34) 22 3 (.int .i64 0) 8 rfl Try.underlying22 infoInt rfl (by decide) w.heap.size _ (skipL l k m).length (nums .i64 (skipL l k m)) (.int .i64 y) rfl HO.out rfl rfl (by omega) HB.out.size HB.out ?_)
          intro v1 w1 ho hb _
          have ho2 := HS.out hmk
          have HS2 := Lib.hid ho2
          have HO2 := Lib.hid ho
          have HB2 := Lib.hid hb
          clear ho hb ho2
          go_wp2
          go_roundw
          case rel => exact ⟨m + 1, by go_num, by omega, Lib.hid (by rw [HS2.out, List.length_append, show nums .i64 (skipL l k m ++ [y]) = nums .i64 (skipL l k m) ++ [.int .i64 y] by simp [nums]]; exact HO2.out), HB2⟩
          case measure => simp [intOf] <;> omega
      · obtain rfl : m = l.length := by omega
        have h1 := HC.out k hkl
        rw [getD_int _ _ hkl] at h1
        have h2 := (HB.out.cell (World.block_lt_of_cell? w _ h1)).trans h1
        obtain ⟨y, hy⟩ : ∃ y, l[k]'hkl = y := ⟨_, rfl⟩
        rw [hy] at h2
        have h3 : wr.cell? (ad.add (l.length - 1 - (l.length - 1 - k))) = some (.int .i64 y) := by rw [show l.length - 1 - (l.length - 1 - k) = k by omega]; exact h2
        have HY := Lib.hid hy
        clear h1 h2 hy
        go_wp2_with (refine wp_app1 (w0 := w) rfl (.tmp 36) (.tmp 45) 22 3 (.int .i64 0) 8 rfl Try.underlying22 infoInt rfl (by decide) w.heap.size _ (skipL l k l.length).length (nums .i64 (skipL l k l.length)) (.int .i64 y) rfl HO.out rfl rfl (by omega) HB.out.size HB.out ?_)
        intro v1 w1 ho hb _
        have HO2 := Lib.hid ho
        have HB2 := Lib.hid hb
        clear ho hb
        go_wp2
        go_ret2
        refine ⟨_, rfl, ?_, HB2.out⟩
        rw [HY.out, List.length_append, show nums .i64 (skipL l k l.length ++ [y]) = nums .i64 (skipL l k l.length) ++ [.int .i64 y] by simp [nums]]
        exact HO2.out
  · have e1 : atE l.length i = -4 := by rw [atE, if_neg h]
    have e3 : rollR l i = [] := by rw [rollR, e1]; rfl
    rw [e1, e3]
    clear e1 e3 hx
    by_cases h0 : i < 0
    all_goals
      go_enter Try.func17, Try.ntmps17
      go_wp2
      go_ret2
      exact ⟨_, rfl, ⟨rfl, .inl ⟨rfl, rfl⟩⟩, Below.refl _ _⟩
end Go.Proofs.Ytfoolkidcdoicaa
