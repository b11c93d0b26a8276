/-  -/
import Derived.Test.YtappfhjknihboaaGreatDoorRows
import Derived.Test.YtappfhjknihboaaGreatDoorMA
import Derived.WalkKit
import Derived.WalkSpells
import Derived.WalkLawsBesides
import Derived.Handy
import Derived.Lib.Hide

/- Package memory: what each call does. -/
namespace Go.Proofs.YtappfhjknihboaaGreatDoor
open Go.RowKit


set_option maxHeartbeats 400000 in
theorem span_ok (A : Option Addr) (n c i m : Nat) (w : World) (h1 : i + m ≤ n) (h2 : n ≤ c) (h3 : c ≤ maxLen) :
    Calls Tryz.prog 42 #[.slice A n c, .int .i64 i, .int .i64 m] w fun e w' => e = .returned (.tuple #[.slice (cutA A i m) m m, .int .i64 0]) ∧ w = w' := by
  unfold maxLen at h3
  have b1 : decide ((n : Int) - m < i) = false := by simp; omega
  by_cases hm : m = 0
  · subst hm
    go_enter Tryz.func42, Tryz.ntmps42
    go_wp2
    go_ret2
    exact ⟨rfl, rfl⟩
  · have e : cutA A i m = A.map (·.add i) := by simp [cutA, hm]
    rw [e]
    go_enter Tryz.func42, Tryz.ntmps42
    go_wp2
    go_ret2
    exact ⟨by simp, rfl⟩

set_option maxHeartbeats 400000 in
theorem span_bad (A : Option Addr) (n c : Nat) (i m : Int) (w : World) (h : i < 0 ∨ m < 0 ∨ (n : Int) < m ∨ n - m < i) (hm : m ≤ 9223372036854775807) (h2 : n ≤ c) (h3 : c ≤ maxLen) :
    Calls Tryz.prog 42 #[.slice A n c, .int .i64 i, .int .i64 m] w fun e w' => e = .returned (.tuple #[.slice none 0 0, .int .i64 (-9)]) ∧ w = w' := by
  unfold maxLen at h3
  go_enter Tryz.func42, Tryz.ntmps42
  go_wp2
  all_goals (go_ret2; exact ⟨rfl, rfl⟩)

set_option maxHeartbeats 400000 in
theorem aligned_ok (A : Option Addr) (n c i : Nat) (w : World) (h1 : i + 8 ≤ n) (h2 : n ≤ c) (h3 : c ≤ maxLen) (h8 : i % 8 = 0) :
    Calls Tryz.prog 41 #[.slice A n c, .int .i64 i] w fun e w' => e = .returned (.tuple #[.slice (cutA A i 8) 8 8, .int .i64 0]) ∧ w = w' := by
  have b2 : ((i : Int) % 8 == 0) = true := by simp; omega
  go_enter Tryz.func41, Tryz.ntmps41
  go_wp2_with (go_at_call 42; refine (span_ok A n c i 8 _ h1 h2 h3).mono ?_; rintro e w' ⟨rfl, rfl⟩)
  go_ret2
  exact ⟨rfl, rfl⟩

theorem aligned_some (ad : Addr) (n c i : Nat) (w : World) (h1 : i + 8 ≤ n) (h2 : n ≤ c) (h3 : c ≤ maxLen) (h8 : i % 8 = 0) :
    Calls Tryz.prog 41 #[.slice (some ad) n c, .int .i64 i] w fun e w' => e = .returned (.tuple #[.slice (some (ad.add i)) 8 8, .int .i64 0]) ∧ w = w' :=
  aligned_ok (some ad) n c i w h1 h2 h3 h8

set_option maxHeartbeats 400000 in
theorem aligned_mis (A : Option Addr) (n c i : Nat) (w : World) (h1 : i + 8 ≤ n) (h2 : n ≤ c) (h3 : c ≤ maxLen) (h8 : ¬ i % 8 = 0) :
    Calls Tryz.prog 41 #[.slice A n c, .int .i64 i] w fun e w' => e = .returned (.tuple #[.slice none 0 0, .int .i64 (-23)]) ∧ w = w' := by
  have b2 : ((i : Int) % 8 == 0) = false := by simp; omega
  go_enter Tryz.func41, Tryz.ntmps41
  go_wp2_with (go_at_call 42; refine (span_ok A n c i 8 _ h1 h2 h3).mono ?_; rintro e w' ⟨rfl, rfl⟩)
  all_goals (go_ret2; exact ⟨rfl, rfl⟩)

set_option maxHeartbeats 400000 in
theorem aligned_bad (A : Option Addr) (n c : Nat) (i : Int) (w : World) (h : i < 0 ∨ n - 8 < i) (h2 : n ≤ c) (h3 : c ≤ maxLen) :
    Calls Tryz.prog 41 #[.slice A n c, .int .i64 i] w fun e w' => e = .returned (.tuple #[.slice none 0 0, .int .i64 (-9)]) ∧ w = w' := by
  go_enter Tryz.func41, Tryz.ntmps41
  go_wp2_with (go_at_call 42; refine (span_bad A n c i 8 _ (by omega) (by omega) h2 h3).mono ?_; rintro e w' ⟨rfl, rfl⟩)
  go_ret2
  exact ⟨rfl, rfl⟩

/-- What memory.Cell tells. -/
def cellR (l : List Int) (i : Int) : Int := if i < 0 ∨ (l.length : Int) - 8 < i then 0 else if i % 8 = 0 then wrap64 (cellAt l i.toNat) else 0
/-- What is thrown of a cell's address. -/
def cellE (n : Nat) (i : Int) : Int := if i < 0 ∨ (n : Int) - 8 < i then -9 else if i % 8 = 0 then 0 else -23

set_option maxHeartbeats 400000 in
theorem Cell_bad (A : Option Addr) (n c : Nat) (i : Int) (w : World) (h : i < 0 ∨ n - 8 < i) (h2 : n ≤ c) (h3 : c ≤ maxLen) :
    Calls Tryz.prog 19 #[.slice A n c, .int .i64 i] w fun e w' => e = .returned (.tuple #[.int .i64 0, .int .i64 (-9)]) ∧ w = w' := by
  go_enter Tryz.func19, Tryz.ntmps19
  go_wp2_with (go_at_call 41; refine (aligned_bad A n c i _ h h2 h3).mono ?_; rintro e w' ⟨rfl, rfl⟩)
  go_rounds 1
  go_ret2
  exact ⟨rfl, rfl⟩

set_option maxHeartbeats 400000 in
theorem Cell_mis (A : Option Addr) (n c i : Nat) (w : World) (h1 : i + 8 ≤ n) (h2 : n ≤ c) (h3 : c ≤ maxLen) (h8 : ¬ i % 8 = 0) :
    Calls Tryz.prog 19 #[.slice A n c, .int .i64 i] w fun e w' => e = .returned (.tuple #[.int .i64 0, .int .i64 (-23)]) ∧ w = w' := by
  go_enter Tryz.func19, Tryz.ntmps19
  go_wp2_with (go_at_call 41; refine (aligned_mis A n c i _ h1 h2 h3 h8).mono ?_; rintro e w' ⟨rfl, rfl⟩)
  go_rounds 1
  go_ret2
  exact ⟨rfl, rfl⟩

set_option maxHeartbeats 400000 in
theorem Cell_ok (ad : Addr) (c i : Nat) (l : List Int) (w : World) (h1 : i + 8 ≤ l.length) (h2 : l.length ≤ c) (h3 : c ≤ maxLen) (h8 : i % 8 = 0)
    (hc : ∀ j, j < l.length → w.cell? (ad.add j) = some (.int .u8 (l.getD j 0))) (hb : isB l) :
    Calls Tryz.prog 19 #[.slice (some ad) l.length c, .int .i64 i] w fun e w' => e = .returned (.tuple #[.int .i64 (wrap64 (cellAt l i)), .int .i64 0]) ∧ w = w' := by
  have e8 : ((l.drop i).take 8).length = 8 := by simp; omega
  have HC : Hid (∀ j, j < 8 → w.cell? ((ad.add i).add j) = some (.int .u8 (((l.drop i).take 8).getD j 0))) := Lib.hid fun j hj => by
    rw [Addr.add_add, hc (i + j) (by omega)]
    simp [List.getD_eq_getElem?_getD, hj]
  have HB := Lib.hid (isB_take (isB_drop hb i) 8)
  unfold cellAt
  generalize (l.drop i).take 8 = b at e8 HC HB ⊢
  have E8 := Lib.hid e8
  clear hc hb e8
  go_enter Tryz.func19, Tryz.ntmps19
  go_wp2_with (go_at_call 41; refine (aligned_some ad l.length c i _ h1 h2 h3 h8).mono ?_; rintro e w' ⟨rfl, rfl⟩)
  go_loop [8, 18] (fun n i => ∃ k : Nat, k ≤ 8 ∧ i = .int .i64 k ∧ n = .int .u64 (le (b.take k))) (fun _ i => 8 - (intOf i).toNat)
  case atStart => exact ⟨0, by omega, rfl, rfl⟩
  case round =>
    obtain ⟨k, hk, rfl, rfl⟩ := hrel
    by_cases hlt : k < 8
    · have hcell := HC.out k hlt
      go_wp2
      go_round
      case rel =>
        refine ⟨k + 1, by omega, by go_num, ?_⟩
        have hl := E8.out
        have hx := le_bound _ (isB_take HB.out k)
        rw [List.length_take, hl, Nat.min_eq_left (by omega)] at hx
        have hy := isB_getD HB.out k
        rw [le_snoc (by omega)]
        rw [List.getD_eq_getElem?_getD] at hy ⊢
        rw [u64_join k hlt _ _ hx.1 hx.2 hy.1 hy.2]
      case measure => simp [intOf]; omega
    · obtain rfl : k = 8 := by omega
      go_wp2
      go_ret2
      exact ⟨by simp [List.take_of_length_le (Nat.le_of_eq E8.out)], rfl⟩
end Go.Proofs.YtappfhjknihboaaGreatDoor


/- Package memory: bytes with others among them. -/
namespace Go.Proofs.YtappfhjknihboaaGreatDoor
open Go.RowKit
theorem infoU8 : (Tryz.prog.info? 5).map (fun i => (i.zero, i.size, i.bytes)) = some (some (.int .u8 0), 1, 1) := by kernel_rfl

set_option maxHeartbeats 400000 in
theorem with_any (A B : Option Addr) (c cb i : Nat) (xs ys : List Int) (w : World) (hx : RdI w .u8 A c xs) (hy : RdI w .u8 B cb ys) (hi : i + ys.length ≤ xs.length) (hl : xs.length ≤ 140737488355328) :
    Calls Tryz.prog 135 #[.slice A xs.length c, .int .i64 i, .slice B ys.length cb] w fun e w' => ∃ v, e = .returned v ∧ w'.ownsRow w.heap.size 5 1 v xs.length (nums .u8 (splice xs i ys)) ∧ Below w.heap.size w w' := by
  have hmk := make_nums (P := Tryz.prog) 22 5 .u8 1 Tryz.underlying22 infoU8 xs.length (by omega) (by omega)
  have HX := Lib.hid hx
  have HY := Lib.hid hy
  clear hx hy
  go_enter Tryz.func135, Tryz.ntmps135
  go_wp2_with (with_reducible refine wpList_copy_splice rfl (.tmp 11) (.tmp 12) 22 22 rfl 5 Tryz.underlying22 (by kernel_rfl) _ _ _ _ _ _ rfl rfl w.heap.size 0 (nums .u8 (List.replicate xs.length 0)) 5 ?h1 (nums .u8 xs) ?h2 ?h3 ?h4 (nums_one _ _) w.heap.size w ?h5 (Nat.le_refl _) ?h6)
  case h1 => exact heap_alloc_new _ _
  case h2 => simp [nums]
  case h3 => exact fun h0 => HX.out.src ((Below.refl _ _).alloc (Nat.le_refl _) _) h0
  case h4 => simp [nums]
  case h5 => exact (Below.refl _ _).alloc (Nat.le_refl _) _
  case h6 =>
  intro w1 hg1 hb1
  have e1 : splice (nums .u8 (List.replicate xs.length 0)) 0 (nums .u8 xs) = nums .u8 xs := by simp [splice, nums]
  rw [e1] at hg1
  clear e1 hmk
  have HB1 := Lib.hid hb1
  clear hb1
  go_wp2_with (with_reducible refine wpList_copy_splice rfl (.tmp 16) (.tmp 17) 22 22 rfl 5 Tryz.underlying22 (by kernel_rfl) _ _ _ _ _ _ rfl rfl w.heap.size i (nums .u8 xs) 5 hg1.out (nums .u8 ys) ?g2 ?g3 ?g4 (nums_one _ _) w.heap.size w HB1.out (Nat.le_refl _) ?g6)
  case g2 => rw [nums_length]; exact (Nat.min_eq_left (by omega)).symm
  case g4 => rw [nums_length, nums_length]; exact hi
  all_goals first
    | exact fun h0 => HY.out.src HB1.out h0
    | exact fun h0 => absurd h0 (by rw [nums_length]; omega)
    | (intro w2 hg2 hb2
       have HB2 := Lib.hid hb2
       clear hb2
       go_wp2
       go_ret
       have hs := own_block (base := w.heap.size) hg2.out (Nat.le_refl _) (by rw [length_splice _ _ _ (by rw [nums_length, nums_length]; exact hi), nums_length]; unfold maxLen; omega)
       rw [nums_splice] at hs
       have hl : (nums .u8 (splice xs i ys)).length = xs.length := by rw [nums_length, length_splice _ _ _ hi]
       rw [hl] at hs
       refine ⟨_, rfl, ?_, HB2.out⟩
       first | exact hs | (rename_i h; simp only [h] at hs ⊢; exact hs))

theorem with_len (A B : Option Addr) (c cb i m : Nat) (xs ys : List Int) (w : World) (hm : ys.length = m) (hx : RdI w .u8 A c xs) (hy : RdI w .u8 B cb ys) (hi : i + m ≤ xs.length) (hl : xs.length ≤ 140737488355328) :
    Calls Tryz.prog 135 #[.slice A xs.length c, .int .i64 i, .slice B m cb] w fun e w' => ∃ v, e = .returned v ∧ w'.ownsRow w.heap.size 5 1 v xs.length (nums .u8 (splice xs i ys)) ∧ Below w.heap.size w w' := by
  subst hm
  exact with_any A B c cb i xs ys w hx hy hi hl
end Go.Proofs.YtappfhjknihboaaGreatDoor


/- Package memory: a cell set, a byte set. -/
namespace Go.Proofs.YtappfhjknihboaaGreatDoor
open Go.RowKit

/-- Memory with a cell in it. -/
def setC (l : List Int) (i v : Int) : List Int := if cellE l.length i = 0 then splice l i.toNat (bytesOf v 8) else []

set_option maxHeartbeats 1000000 in
theorem SetCell_ok (A : Option Addr) (c i : Nat) (v : Int) (l : List Int) (w : World) (h1 : i + 8 ≤ l.length) (h8 : i % 8 = 0) (hx : RdI w .u8 A c l) (hl : l.length ≤ 140737488355328) :
    Calls Tryz.prog 128 #[.slice A l.length c, .int .i64 i, .int .i64 v] w fun e w' => ∃ x, e = .returned (.tuple #[x, .int .i64 0]) ∧ w'.ownsRow w.heap.size 5 1 x l.length (nums .u8 (splice l i (bytesOf v 8))) ∧ Below w.heap.size w w' := by
  have h2 := hx.le
  have h3 := hx.cap
  have HX := Lib.hid hx
  clear hx
  go_enter Tryz.func128, Tryz.ntmps128
  go_wp2_with (go_at_call 41; refine (aligned_ok A l.length c i _ h1 h2 h3 h8).mono ?_; rintro e w' ⟨rfl, rfl⟩)
  refine wp_loop_rounds 9 ?_
  repeat any_goals (rw [rounds_succ]; go_wp2_with fail)
  refine (with_len A (some ⟨w.heap.size, 0, none⟩) c 8 i 8 l (bytesOf v 8) _ (bytesOf_length _ _) ?_ ?_ h1 hl).mono ?_
  · exact HX.out.below ((Below.refl _ _).alloc (Nat.le_refl _) _)
  · exact rd_alloc w _ _ _ _ _ _ _ (by simp only [bytesOf, nums, IntKind.wrap_u64, List.map_cons, List.map_nil, List.cons.injEq, Value.int.injEq, true_and, and_true]; omega) (by rw [nums_length, Nat.mul_one]) (by rw [bytesOf_length]; decide) (by decide)
  rintro e w1 ⟨x, rfl, hown, hbel⟩
  have HO := Lib.hid hown
  have HB := Lib.hid hbel
  clear hown hbel
  go_wp2
  go_ret2
  refine ⟨x, rfl, own_mono HO.out (by simp), ?_⟩
  exact below_two ((Below.refl _ _).alloc (Nat.le_refl _) _) HB.out

set_option maxHeartbeats 400000 in
theorem SetCell_mis (A : Option Addr) (n c i : Nat) (v : Int) (w : World) (h1 : i + 8 ≤ n) (h8 : ¬ i % 8 = 0) (h2 : n ≤ c) (h3 : c ≤ maxLen) :
    Calls Tryz.prog 128 #[.slice A n c, .int .i64 i, .int .i64 v] w fun e w' => e = .returned (.tuple #[.slice none 0 0, .int .i64 (-23)]) ∧ w = w' := by
  go_enter Tryz.func128, Tryz.ntmps128
  go_wp2_with (go_at_call 41; refine (aligned_mis A n c i _ h1 h2 h3 h8).mono ?_; rintro e w' ⟨rfl, rfl⟩)
  go_ret2
  exact ⟨rfl, rfl⟩
set_option maxHeartbeats 400000 in
theorem SetCell_bad (A : Option Addr) (n c : Nat) (i v : Int) (w : World) (h : i < 0 ∨ n - 8 < i) (h2 : n ≤ c) (h3 : c ≤ maxLen) :
    Calls Tryz.prog 128 #[.slice A n c, .int .i64 i, .int .i64 v] w fun e w' => e = .returned (.tuple #[.slice none 0 0, .int .i64 (-9)]) ∧ w = w' := by
  go_enter Tryz.func128, Tryz.ntmps128
  go_wp2_with (go_at_call 41; refine (aligned_bad A n c i _ h h2 h3).mono ?_; rintro e w' ⟨rfl, rfl⟩)
  go_ret2
  exact ⟨rfl, rfl⟩

/-- memory.SetCell, at any address. -/
theorem SetCell_any (A : Option Addr) (c : Nat) (i v : Int) (l : List Int) (w : World) (hx : RdI w .u8 A c l) (hl : l.length ≤ 140737488355328) :
    Calls Tryz.prog 128 #[.slice A l.length c, .int .i64 i, .int .i64 v] w fun e w' => ∃ x, e = .returned (.tuple #[x, .int .i64 (cellE l.length i)]) ∧ w'.ownsRow w.heap.size 5 1 x (setC l i v).length (nums .u8 (setC l i v)) ∧ Below w.heap.size w w' := by
  by_cases h : i < 0 ∨ (l.length : Int) - 8 < i
  · refine (SetCell_bad A l.length c i v w h hx.le hx.cap).mono ?_
    rintro e w' ⟨rfl, rfl⟩
    have e1 : cellE l.length i = -9 := by rw [cellE, if_pos h]
    exact ⟨_, by rw [e1], by rw [setC, e1]; exact ⟨by simp [nums], .inl ⟨rfl, rfl⟩⟩, Below.refl _ _⟩
  · obtain ⟨k, rfl⟩ := Int.eq_ofNat_of_zero_le (show 0 ≤ i by omega)
    by_cases h8 : k % 8 = 0
    · refine (SetCell_ok A c k v l w (by omega) h8 hx hl).mono ?_
      rintro e w' ⟨x, rfl, ho, hb⟩
      have e1 : cellE l.length k = 0 := by rw [cellE, if_neg h, if_pos (by omega)]
      refine ⟨x, by rw [e1], ?_, hb⟩
      rw [setC, e1, if_pos rfl, length_splice _ _ _ (by rw [bytesOf_length]; omega)]
      exact ho
    · refine (SetCell_mis A l.length c k v w (by omega) h8 hx.le hx.cap).mono ?_
      rintro e w' ⟨rfl, rfl⟩
      have e1 : cellE l.length k = -23 := by rw [cellE, if_neg h, if_neg (by omega)]
      exact ⟨_, by rw [e1], by rw [setC, e1]; exact ⟨by simp [nums], .inl ⟨rfl, rfl⟩⟩, Below.refl _ _⟩

/-- memory.Cell, at any address. -/
theorem Cell_any (A : Option Addr) (c : Nat) (i : Int) (l : List Int) (w : World) (hx : RdI w .u8 A c l) (hb : isB l) :
    Calls Tryz.prog 19 #[.slice A l.length c, .int .i64 i] w fun e w' => e = .returned (.tuple #[.int .i64 (cellR l i), .int .i64 (cellE l.length i)]) ∧ w = w' := by
  by_cases h : i < 0 ∨ (l.length : Int) - 8 < i
  · rw [cellR, cellE, if_pos h, if_pos h]
    exact Cell_bad A l.length c i w h hx.le hx.cap
  · obtain ⟨k, rfl⟩ := Int.eq_ofNat_of_zero_le (show 0 ≤ i by omega)
    rw [cellR, cellE, if_neg h, if_neg h]
    by_cases h8 : k % 8 = 0
    · rw [if_pos (by omega), if_pos (by omega)]
      obtain ⟨ad, rfl, hc⟩ := hx.all (by omega)
      exact Cell_ok ad c k l w (by omega) hx.le hx.cap h8 hc hb
    · rw [if_neg (by omega), if_neg (by omega)]
      exact Cell_mis A l.length c k w (by omega) hx.le hx.cap h8

/-- What memory.Byte tells, and what is thrown. -/
def byteR (l : List Int) (i : Int) : Int := if i < 0 ∨ (l.length : Int) ≤ i then 0 else l.getD i.toNat 0
def byteE (n : Nat) (i : Int) : Int := if i < 0 ∨ (n : Int) ≤ i then -9 else 0
def setB (l : List Int) (i v : Int) : List Int := if byteE l.length i = 0 then splice l i.toNat [v % 256] else []

set_option maxHeartbeats 400000 in
theorem SetByte_any (A : Option Addr) (c : Nat) (i v : Int) (l : List Int) (w : World) (hx : RdI w .u8 A c l) (hl : l.length ≤ 140737488355328) :
    Calls Tryz.prog 112 #[.slice A l.length c, .int .i64 i, .int .i64 v] w fun e w' => ∃ x, e = .returned (.tuple #[x, .int .i64 (byteE l.length i)]) ∧ w'.ownsRow w.heap.size 5 1 x (setB l i v).length (nums .u8 (setB l i v)) ∧ Below w.heap.size w w' := by
  by_cases h : i < 0 ∨ (l.length : Int) ≤ i
  · have e1 : byteE l.length i = -9 := by rw [byteE, if_pos h]
    have e2 : setB l i v = [] := by rw [setB, e1]; rfl
    rw [e1, e2]
    have h2 := hx.le
    have h3 := hx.cap
    clear hx e1 e2
    go_enter Tryz.func112, Tryz.ntmps112
    go_wp2_with (go_at_call 42; refine (span_bad A l.length c i 1 _ (by omega) (by omega) h2 h3).mono ?_; rintro e w' ⟨rfl, rfl⟩)
    go_ret2
    exact ⟨_, rfl, ⟨rfl, .inl ⟨rfl, rfl⟩⟩, Below.refl _ _⟩
  · have e1 : byteE l.length i = 0 := by rw [byteE, if_neg h]
    have e2 : setB l i v = splice l i.toNat [v % 256] := by rw [setB, e1, if_pos rfl]
    rw [e1, e2]
    obtain ⟨k, rfl⟩ := Int.eq_ofNat_of_zero_le (show 0 ≤ i by omega)
    rw [Int.toNat_natCast, length_splice _ _ _ (by simp; omega)]
    have h2 := hx.le
    have h3 := hx.cap
    have HX := Lib.hid hx
    clear hx e1 e2
    go_enter Tryz.func112, Tryz.ntmps112
    go_wp2_with (go_at_call 42; refine (span_ok A l.length c k 1 _ (by omega) h2 h3).mono ?_; rintro e w' ⟨rfl, rfl⟩)
    refine (with_len A (some ⟨w.heap.size, 0, none⟩) c 1 k 1 l [v % 256] _ rfl ?_ ?_ (by omega) hl).mono ?_
    · exact HX.out.below ((Below.refl _ _).alloc (Nat.le_refl _) _)
    · exact rd_alloc w _ _ _ _ _ _ _ rfl rfl (Nat.le_refl _) (by decide)
    rintro e w1 ⟨x, rfl, hown, hbel⟩
    have HO := Lib.hid hown
    have HB := Lib.hid hbel
    clear hown hbel
    go_wp2
    go_ret2
    exact ⟨x, rfl, own_mono HO.out (by simp), below_two ((Below.refl _ _).alloc (Nat.le_refl _) _) HB.out⟩

/-- What memory.Bytes tells, and what is thrown. -/
def bytesE (n : Nat) (i m : Int) : Int := if i < 0 ∨ m < 0 ∨ (n : Int) < m ∨ n - m < i then -9 else 0
def bytesR (l : List Int) (i m : Int) : List Int := if bytesE l.length i m = 0 then (l.drop i.toNat).take m.toNat else []

set_option maxHeartbeats 400000 in
theorem Bytes_any (A : Option Addr) (c : Nat) (i m : Int) (l : List Int) (w : World) (hx : RdI w .u8 A c l) (hm : m ≤ 9223372036854775807) :
    Calls Tryz.prog 20 #[.slice A l.length c, .int .i64 i, .int .i64 m] w fun e w' => ∃ A' c', e = .returned (.tuple #[.slice A' (bytesR l i m).length c', .int .i64 (bytesE l.length i m)]) ∧ RdI w .u8 A' c' (bytesR l i m) ∧ w = w' := by
  have h2 := hx.le
  have h3 := hx.cap
  have HX := Lib.hid hx
  clear hx
  by_cases h : i < 0 ∨ m < 0 ∨ (l.length : Int) < m ∨ l.length - m < i
  · have e1 : bytesE l.length i m = -9 := by rw [bytesE, if_pos h]
    have e2 : bytesR l i m = [] := by rw [bytesR, e1]; rfl
    rw [e1, e2]
    clear e1 e2
    go_enter Tryz.func20, Tryz.ntmps20
    go_wp2_with (go_at_call 42; refine (span_bad A l.length c i m _ h hm h2 h3).mono ?_; rintro e w' ⟨rfl, rfl⟩)
    go_ret2
    exact ⟨none, 0, rfl, rd_nil _ _, rfl⟩
  · have e1 : bytesE l.length i m = 0 := by rw [bytesE, if_neg h]
    have e2 : bytesR l i m = (l.drop i.toNat).take m.toNat := by rw [bytesR, e1, if_pos rfl]
    rw [e1, e2]
    obtain ⟨k, rfl⟩ := Int.eq_ofNat_of_zero_le (show 0 ≤ i by omega)
    obtain ⟨j, rfl⟩ := Int.eq_ofNat_of_zero_le (show 0 ≤ m by omega)
    rw [Int.toNat_natCast, Int.toNat_natCast]
    have hc := HX.out.cut k j j (by omega) (Nat.le_refl _) (by omega)
    have e3 : ((l.drop k).take j).length = j := by simp; omega
    rw [e3]
    have HC := Lib.hid hc
    clear hc e1 e2 e3
    go_enter Tryz.func20, Tryz.ntmps20
    go_wp2_with (go_at_call 42; refine (span_ok A l.length c k j _ (by omega) h2 h3).mono ?_; rintro e w' ⟨rfl, rfl⟩)
    go_ret2
    exact ⟨_, _, rfl, HC.out, rfl⟩
end Go.Proofs.YtappfhjknihboaaGreatDoor


/- Package nostosref03: the same as package memory. -/
namespace Go.Proofs.YtappfhjknihboaaGreatDoor
open Go.RowKit

theorem wrap64_mul (x : Int) : wrap64 (wrap64 x * 256) = wrap64 (x * 256) := by unfold wrap64; omega

set_option maxHeartbeats 1000000 in
theorem RefCell_any (A : Option Addr) (c : Nat) (i : Int) (l : List Int) (w : World) (hx : RdI w .u8 A c l) (hb : isB l) :
    Calls Tryz.prog 145 #[.slice A l.length c, .int .i64 i] w fun e w' => e = .returned (.tuple #[.int .i64 (cellR l i), .int .i64 (cellE l.length i)]) ∧ w = w' := by
  have h2 := hx.le
  have h3 := hx.cap
  unfold maxLen at h3
  by_cases h : i < 0 ∨ (l.length : Int) - 8 < i
  · rw [cellR, cellE, if_pos h, if_pos h]
    clear hx hb
    by_cases h0 : i < 0
    all_goals
      go_enter Tryz.func145, Tryz.ntmps145
      go_wp2
      go_ret2
      exact ⟨rfl, rfl⟩
  · rw [cellR, cellE, if_neg h, if_neg h]
    obtain ⟨k, rfl⟩ := Int.eq_ofNat_of_zero_le (show 0 ≤ i by omega)
    by_cases h8 : (k : Int) % 8 = 0
    · rw [if_pos h8, if_pos h8, Int.toNat_natCast]
      obtain ⟨ad, rfl, hc⟩ := hx.all (by omega)
      have h1 : k + 8 ≤ l.length := by omega
      have HC : Hid (∀ j, j < 8 → w.cell? (ad.add (k + j)) = some (.int .u8 (((l.drop k).take 8).getD j 0))) := Lib.hid fun j hj => by
        rw [hc (k + j) (by omega)]
        simp [List.getD_eq_getElem?_getD, hj]
      have E8 : Hid (((l.drop k).take 8).length = 8) := Lib.hid (by simp; omega)
      have HB := Lib.hid (isB_take (isB_drop hb k) 8)
      unfold cellAt
      generalize (l.drop k).take 8 = b at E8 HC HB ⊢
      have b8 : ((k : Int) % 8 == 0) = true := by simpa using h8
      clear hx hb hc h h8
      go_enter Tryz.func145, Tryz.ntmps145
      go_wp2
      go_loop [6, 7] (fun n i => ∃ m : Nat, m ≤ 8 ∧ i = .int .i64 (m - 1) ∧ n = .int .i64 (wrap64 (le (b.drop m)))) (fun _ i => (intOf i + 1).toNat)
      case atStart => exact ⟨8, by omega, rfl, by rw [List.drop_eq_nil_of_le (Nat.le_of_eq E8.out)]; simp [le, wrap64]⟩
      case round =>
        obtain ⟨m, hm, rfl, rfl⟩ := hrel
        rcases m with _ | m
        · go_wp2
          go_ret2
          exact ⟨rfl, rfl⟩
        · have hcell := HC.out m (by omega)
          have hr := isB_getD HB.out m
          have hd := drop_cons (l := b) (k := m) (by rw [E8.out]; omega)
          generalize b.getD m 0 = x at hcell hr hd
          obtain ⟨hr0, hr1⟩ := hr
          have HD := Lib.hid hd
          clear hd
          have e1 : ((m + 1 : Nat) : Int) - 1 = m := by omega
          rw [e1]
          clear e1
          go_wp2
          go_round
          case rel =>
            refine ⟨m, by omega, rfl, ?_⟩
            have e2 : le (b.drop m) = le (b.drop (m + 1)) * 256 + x := by
              rw [HD.out, le]
              omega
            rw [wrap64_mul, i64_join _ _ hr0 hr1, e2]
          case measure => simp [intOf] <;> omega
    · rw [if_neg h8, if_neg h8]
      have b8 : ((k : Int) % 8 == 0) = false := by simpa using h8
      clear hx hb h8
      go_enter Tryz.func145, Tryz.ntmps145
      go_wp2
      all_goals (go_ret2; exact ⟨rfl, rfl⟩)

end Go.Proofs.YtappfhjknihboaaGreatDoor


/- Package nostosref03: a cell set, a byte set. -/
namespace Go.Proofs.YtappfhjknihboaaGreatDoor
open Go.RowKit

set_option maxHeartbeats 1000000 in
theorem RefSetCell_any (A : Option Addr) (c : Nat) (i v : Int) (l : List Int) (w : World) (hx : RdI w .u8 A c l) (hb : isB l) (hl : l.length ≤ 140737488355328) :
    Calls Tryz.prog 137 #[.slice A l.length c, .int .i64 i, .int .i64 v] w fun e w' => ∃ x, e = .returned (.tuple #[x, .int .i64 (cellE l.length i)]) ∧ w'.ownsRow w.heap.size 5 1 x (setC l i v).length (nums .u8 (setC l i v)) ∧ Below w.heap.size w w' := by
  have HX := Lib.hid hx
  have HB := Lib.hid hb
  clear hx hb
  by_cases he : cellE l.length i = 0
  · rw [setC, if_pos he]
    rw [he]
    have hi : 0 ≤ i ∧ i + 8 ≤ l.length := by
      unfold cellE at he
      split at he <;> omega
    obtain ⟨k, rfl⟩ := Int.eq_ofNat_of_zero_le hi.1
    rw [Int.toNat_natCast]
    have h1 : k + 8 ≤ l.length := by omega
    rw [length_splice _ _ _ (by rw [bytesOf_length]; exact h1)]
    have HE := Lib.hid he
    clear he hi
    go_enter Tryz.func137, Tryz.ntmps137
    go_wp2_with fail
    refine (RefCell_any A c k l _ HX.out HB.out).mono ?_
    rintro e w' ⟨rfl, rfl⟩
    rw [HE.out]
    go_wp2_with (with_reducible refine wp_app (w0 := w) rfl (.tmp 22) (.tmp 23) 22 5 (.int .u8 0) 1 1 rfl Tryz.underlying22 infoU8 rfl (by decide) (by decide) w.heap.size _ 0 [] rfl (own_empty (heap_alloc_new _ _) (Nat.le_refl _)) A l.length c (nums .u8 l) rfl (HX.out.below ((Below.refl _ _).alloc (Nat.le_refl _) _)) (nums_one _ _) (by omega) (by simp) ((Below.refl _ _).alloc (Nat.le_refl _) _) ?_)
    intro v1 w1 ho hbl _
    (try rw [Nat.zero_add, List.nil_append] at ho)
    obtain ⟨g, cap, rfl, hg, hgs, hc1, hc2⟩ := own_form ho (by omega)
    unfold maxLen at hc2
    have HO := Lib.hid ho
    have HBL := Lib.hid hbl
    clear ho hbl
    go_wp2
    go_loopw [11, 12] (fun x i wr => ∃ (j : Nat) (q : Int), j ≤ 8 ∧ i = .int .i64 j ∧ x = .int .u64 q ∧ 0 ≤ q ∧ q ≤ 18446744073709551615 ∧ Hid (q = v % 18446744073709551616 / 256 ^ j) ∧ Hid (wr.ownsRow w.heap.size 5 1 (.slice (some ⟨g, 0, none⟩) l.length cap) l.length (nums .u8 (splice l k (bytesOf v j)))) ∧ Hid (Below w.heap.size w wr)) (fun _ i _ => 8 - (intOf i).toNat)
    case atStart => exact ⟨0, v % 18446744073709551616, by omega, rfl, by rw [IntKind.wrap_u64], by omega, by omega, Lib.hid (by simp), by rw [bytesOf, splice_nil]; exact HO, HBL⟩
    case round =>
      obtain ⟨j, q, hj, rfl, rfl, hq0, hq1, HQ, HO2, HB2⟩ := hrel
      by_cases hlt : j < 8
      · have hcell := HO2.out.cellAt (k + j) (by omega)
        have hfr := HO2.out.frozenAt (k + j)
        rw [nums_get (by rw [length_splice _ _ _ (by rw [bytesOf_length]; omega)]; omega)] at hcell
        generalize (splice l k (bytesOf v j)).getD (k + j) 0 = old at hcell
        go_wp2
        have hs := HO2.out.stored (k + j) (.int .u8 (q % 256))
        rw [nums_set] at hs
        have e1 : q % 256 = v / 256 ^ j % 256 := by rw [HQ.out, u64_shift v j hlt]
        have e2 := splice_snoc l (bytesOf v j) k (v / 256 ^ j % 256) (by rw [bytesOf_length]; omega)
        rw [bytesOf_length, ← bytesOf_snoc, ← e1] at e2
        go_roundw
        case rel =>
          refine ⟨j + 1, q / 256, by omega, by go_num, ?_, by omega, by omega, Lib.hid ?_, ?_, Lib.hid (HB2.out.setCell hg _)⟩
          · rfl
          · rw [HQ.out, Int.ediv_ediv_of_nonneg (by exact Int.pow_nonneg (by decide)), Int.pow_succ]
          · rw [e2]
            exact Lib.hid hs.1
        case measure => simp [intOf] <;> omega
      · obtain rfl : j = 8 := by omega
        go_wp2
        go_ret2
        exact ⟨_, rfl, HO2.out, HB2.out⟩
  · rw [setC, if_neg he]
    go_enter Tryz.func137, Tryz.ntmps137
    have hn : (cellE l.length i == 0) = false := by simpa using he
    have hn' : (cellE l.length i != 0) = true := by simpa using he
    go_wp2_with (go_at_call 145; refine (RefCell_any A c i l _ HX.out HB.out).mono ?_; rintro e w' ⟨rfl, rfl⟩)
    go_ret2
    exact ⟨_, rfl, ⟨rfl, .inl ⟨rfl, rfl⟩⟩, Below.refl _ _⟩

set_option maxHeartbeats 1000000 in
theorem RefSetByte_any (A : Option Addr) (c : Nat) (i v : Int) (l : List Int) (w : World) (hx : RdI w .u8 A c l) (hl : l.length ≤ 140737488355328) :
    Calls Tryz.prog 118 #[.slice A l.length c, .int .i64 i, .int .i64 v] w fun e w' => ∃ x, e = .returned (.tuple #[x, .int .i64 (byteE l.length i)]) ∧ w'.ownsRow w.heap.size 5 1 x (setB l i v).length (nums .u8 (setB l i v)) ∧ Below w.heap.size w w' := by
  have HX := Lib.hid hx
  clear hx
  by_cases h : i < 0 ∨ (l.length : Int) ≤ i
  · have e1 : byteE l.length i = -9 := by rw [byteE, if_pos h]
    have e2 : setB l i v = [] := by rw [setB, e1]; rfl
    rw [e1, e2]
    clear e1 e2
    by_cases h0 : i < 0
    all_goals
      go_enter Tryz.func118, Tryz.ntmps118
      go_wp2
      go_ret2
      exact ⟨_, rfl, ⟨rfl, .inl ⟨rfl, rfl⟩⟩, Below.refl _ _⟩
  · have e1 : byteE l.length i = 0 := by rw [byteE, if_neg h]
    have e2 : setB l i v = splice l i.toNat [v % 256] := by rw [setB, e1, if_pos rfl]
    rw [e1, e2]
    obtain ⟨k, rfl⟩ := Int.eq_ofNat_of_zero_le (show 0 ≤ i by omega)
    rw [Int.toNat_natCast, length_splice _ _ _ (by simp; omega)]
    clear e1 e2
    go_enter Tryz.func118, Tryz.ntmps118
    go_wp2_with (with_reducible refine wp_app (w0 := w) rfl (.tmp 17) (.tmp 18) 22 5 (.int .u8 0) 1 1 rfl Tryz.underlying22 infoU8 rfl (by decide) (by decide) w.heap.size _ 0 [] rfl (own_empty (heap_alloc_new _ _) (Nat.le_refl _)) A l.length c (nums .u8 l) rfl (HX.out.below ((Below.refl _ _).alloc (Nat.le_refl _) _)) (nums_one _ _) (by omega) (by simp) ((Below.refl _ _).alloc (Nat.le_refl _) _) ?_)
    intro v1 w1 ho hbl _
    obtain ⟨g, cap, rfl, hg, hgs, hc1, hc2⟩ := own_form (n := l.length) ho (by omega)
    unfold maxLen at hc2
    have ho : w1.ownsRow w.heap.size 5 1 (.slice (some ⟨g, 0, none⟩) l.length cap) l.length (nums .u8 l) := ho
    have HO := Lib.hid ho
    have HBL := Lib.hid hbl
    clear ho hbl
    have hcell := HO.out.cellAt k (by omega)
    have hfr := HO.out.frozenAt k
    rw [nums_get (by omega)] at hcell
    generalize l.getD k 0 = old at hcell
    go_wp2
    go_ret2
    have hs := HO.out.stored k (.int .u8 (v % 256))
    rw [nums_set] at hs
    have e2 := splice_snoc l [] k (v % 256) (by simp; omega)
    rw [splice_nil] at e2
    refine ⟨_, rfl, ?_, HBL.out.setCell hg _⟩
    rw [show ([v % 256] : List Int) = [] ++ [v % 256] from rfl, e2]
    exact hs.1
end Go.Proofs.YtappfhjknihboaaGreatDoor
