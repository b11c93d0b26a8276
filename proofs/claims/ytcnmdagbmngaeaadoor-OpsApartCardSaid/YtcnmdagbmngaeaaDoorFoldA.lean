/- names.Fold, and the reference's. -/
import Derived.Test.YtcnmdagbmngaeaaDoorBuild
import Derived.Test.YtcnmdagbmngaeaaDoorPlain07
import Derived.Test.YtcnmdagbmngaeaaDoorKept
import Derived.Deep.QuietTactic
import Derived.BigQuiet
namespace Go.Proofs.YtcnmdagbmngaeaaDoor
open Go.RowKit

set_option maxHeartbeats 400000 in
theorem Fold1_any (s : ByteArray) (k : Nat) (p : Addr) (w : World) (hp : w.cell? p = some (.string s)) (hk : k < s.size) (hs : s.size ≤ maxLen) :
    Calls Tryd.prog 34 #[.int .i64 k, .pointer (some p)] w fun e w' => e = .returned (.int .u8 (capI (bt s k))) ∧ w = w' := by
  have hg := get_bt s k hk
  have hr := bt_range s k
  unfold maxLen at hs
  obtain ⟨c, hc⟩ : ∃ c, bt s k = c := ⟨_, rfl⟩
  rw [hc] at hg hr ⊢
  clear hc
  by_cases h1 : 97 ≤ c
  · by_cases h2 : c ≤ 122
    · have e1 : capI c = c - 32 := by rw [capI, if_pos ⟨h1, h2⟩]
      rw [e1]
      clear e1
      have b1 : IntKind.u8.wrap (c - 97) = c - 97 := IntWalk.u8_in _ (by omega)
      have b2 : IntKind.u8.wrap (c - 97 + 65) = c - 32 := by rw [IntWalk.u8_in _ (by omega)]; omega
      go_enter Tryd.func34, Tryd.ntmps34
      go_wp2
      go_ret
      exact ⟨rfl, rfl⟩
    · have e1 : capI c = c := by rw [capI, if_neg (by omega)]
      rw [e1]
      clear e1
      go_enter Tryd.func34, Tryd.ntmps34
      go_wp2
      go_ret
      exact ⟨rfl, rfl⟩
  · have e1 : capI c = c := by rw [capI, if_neg (by omega)]
    rw [e1]
    clear e1
    go_enter Tryd.func34, Tryd.ntmps34
    go_wp2
    go_ret
    exact ⟨rfl, rfl⟩

set_option maxHeartbeats 1000000 in
theorem Fold_any (s : ByteArray) (w : World) (hs : s.size ≤ 140737488355327) :
    Calls Tryd.prog 29 #[.string s] w fun e w' => e = .returned (.string (foldB s)) ∧ Below w.heap.size w w' := by
  have hmf : ∀ (fn : Fn) (first cap : Array Value) (w : World), (Instr.makeFunc fn first cap).run Tryd.prog w = .ok (.func fn first cap) w := fun _ _ _ _ => rfl
  go_enter Tryd.func29, Tryd.ntmps29
  go_wp2_with fail
  go_loopw [9] (fun i wr => ∃ k : Nat, i = .int .i64 k ∧ k ≤ s.size ∧ Hid (IsB (w.heap.size + 1) (Lib.byteCells ((foldL s).take k)) wr) ∧ Hid (wr.cell? ⟨w.heap.size, 0, none⟩ = some (.string s)) ∧ Hid (Below w.heap.size w wr)) (fun i _ => s.size - (intOf i).toNat)
  case atStart =>
    refine ⟨0, rfl, by omega, Lib.hid ?_, Lib.hid (by simp), Lib.hid (((Below.refl _ _).alloc (Nat.le_refl _) _).alloc (by simp) _)⟩
    have := Lib.fresh_isBuilder 43 5 (w.alloc (.cells #[.string s] 9))
    simpa [IsB, Lib.byteCells] using this
  case round =>
    obtain ⟨k, rfl, hk, HI, HC, HB⟩ := hrel
    by_cases hlt : k < s.size
    · have hsn := foldL_snoc s k hlt
      have hci := capI_eq (s[k]'hlt)
      rw [get_bt s k hlt] at hci
      have hlen : (Lib.byteCells ((foldL s).take k)).length = k := by rw [Lib.byteCells_length, List.length_take, foldL_len]; omega
      have HS := Lib.hid hsn
      have HL := Lib.hid hlen
      have HCI := Lib.hid hci
      clear hsn hci hlen
      go_wp2_with (go_at_call 34; refine (Fold1_any s k _ _ HC.out hlt (by unfold maxLen; omega)).mono ?_; rintro e w' ⟨rfl, rfl⟩)
      refine (WriteByte _ _ _ _ HI.out (by have := HL.out; omega) (by have := HB.out.size; have := World.block_lt_of_cell? _ _ HC.out; simp at this; omega)).mono ?_
      rintro e w2 ⟨rfl, hI, hb⟩
      have HI2 := Lib.hid hI
      have HC2 := Lib.hid ((hb.cell (p := ⟨w.heap.size, 0, none⟩) (by simp)).trans HC.out)
      have HB2 := Lib.hid (HB.out.trans (hb.mono (by omega)))
      clear hI hb
      go_wp2
      go_roundw
      case rel => exact ⟨k + 1, by go_num, by omega, Lib.hid (by rw [HS.out, Lib.byteCells_append]; have := HI2.out; rw [HCI.out] at this; exact this), HC2, HB2⟩
      case measure => simp [intOf] <;> omega
    · obtain rfl : k = s.size := by omega
      have hI := HI.out
      rw [List.take_of_length_le (by rw [foldL_len]; omega)] at hI
      have HI2 := Lib.hid hI
      clear hI HI
      go_wp2_with fail
      refine (Builder_String _ _ _ HI2.out (by have := HB.out.size; have := World.block_lt_of_cell? _ _ HC.out; simp at this; omega)).mono ?_
      rintro e w2 ⟨rfl, hb⟩
      have HB2 := Lib.hid (HB.out.trans (hb.mono (by omega)))
      clear hb
      go_wp2
      go_ret
      exact ⟨rfl, HB2.out⟩

theorem byteCells_nums (l : List UInt8) : Lib.byteCells l = nums .u8 (l.map fun b => (b.toNat : Int)) := by simp [Lib.byteCells, nums, Function.comp_def]
theorem strOf_bytes (l : List UInt8) : strOf (l.map fun b => (b.toNat : Int)) = ⟨l.toArray⟩ := by
  simp [strOf, strOfNums, Function.comp_def]
theorem conv_bytes {w : World} {A : Option Addr} {c : Nat} {l : List UInt8} (h : Rd w A l.length c 1 (Lib.byteCells l)) : (convert 36 9 (.slice A l.length c)).run Tryd.prog w = .ok (.string ⟨l.toArray⟩) w := by
  have h2 : RdI w .u8 A c (l.map fun b => (b.toNat : Int)) := by
    rw [byteCells_nums] at h
    show Rd w A (l.map fun b => (b.toNat : Int)).length c 1 _
    rw [List.length_map]
    exact h
  have := conv_rd (P := Tryd.prog) Tryd.underlying36 Tryd.underlying5 Tryd.underlying9 h2
  rw [strOf_bytes] at this
  simpa using this
/-- The reference's: byte by byte. -/
theorem RCap_any (c : Int) (w : World) (h0 : 0 ≤ c) (h1 : c < 256) :
    Calls Tryd.prog 30 #[.int .u8 c] w fun e w' => e = .returned (.int .u8 (capI c)) ∧ w = w' := by
  by_cases ha : 97 ≤ c
  · by_cases hb : c ≤ 122
    · have e1 : capI c = c - 32 := by rw [capI, if_pos ⟨ha, hb⟩]
      rw [e1]
      clear e1
      have b1 : IntKind.u8.wrap (c - 32) = c - 32 := IntWalk.u8_in _ (by omega)
      go_enter Tryd.func30, Tryd.ntmps30
      go_wp2
      go_ret
      exact ⟨rfl, rfl⟩
    · have e1 : capI c = c := by rw [capI, if_neg (by omega)]
      rw [e1]
      clear e1
      go_enter Tryd.func30, Tryd.ntmps30
      go_wp2
      go_ret
      exact ⟨rfl, rfl⟩
  · have e1 : capI c = c := by rw [capI, if_neg (by omega)]
    rw [e1]
    clear e1
    go_enter Tryd.func30, Tryd.ntmps30
    go_wp2
    go_ret
    exact ⟨rfl, rfl⟩

theorem infoU8 : (Tryd.prog.info? 5).map (fun i => (i.zero, i.size, i.bytes)) = some (some (.int .u8 0), 1, 1) := by kernel_rfl

set_option maxHeartbeats 1000000 in
theorem RFold_any (s : ByteArray) (w : World) (hs : s.size ≤ 140737488355327) :
    Calls Tryd.prog 23 #[.string s] w fun e w' => e = .returned (.string (foldB s)) ∧ Below w.heap.size w w' := by
  go_enter Tryd.func23, Tryd.ntmps23
  go_wp2_with fail
  go_loopw [3, 4] (fun x i wr => ∃ k : Nat, i = .int .i64 k ∧ k ≤ s.size ∧ Hid (wr.ownsRow w.heap.size 5 1 x k (Lib.byteCells ((foldL s).take k))) ∧ Hid (Below w.heap.size w wr)) (fun _ i _ => s.size - (intOf i).toNat)
  case atStart => exact ⟨0, rfl, by omega, Lib.hid ⟨rfl, .inl ⟨rfl, rfl⟩⟩, Lib.hid (Below.refl _ _)⟩
  case round =>
    obtain ⟨k, rfl, hk, HO, HB⟩ := hrel
    by_cases hlt : k < s.size
    · have hsn := foldL_snoc s k hlt
      have hci := capI_eq (s[k]'hlt)
      rw [get_bt s k hlt] at hci
      have hg := get_bt s k hlt
      have hr := bt_range s k
      have HS := Lib.hid hsn
      have HCI := Lib.hid hci
      clear hsn hci
      generalize bt s k = c at *
      go_wp2_with (first
        | (go_at_call 30; refine (RCap_any c _ hr.1 hr.2).mono ?_; rintro e w' ⟨rfl, rfl⟩)
        | (refine wp_app1 (w0 := w) rfl (.tmp 11) (.tmp 16) 36 5 (.int .u8 0) 1 rfl Tryd.underlying36 infoU8 rfl (by decide) w.heap.size _ k (Lib.byteCells ((foldL s).take k)) (.int .u8 (capI c)) rfl HO.out rfl rfl (by omega) HB.out.size HB.out ?_))
      intro v1 w1 ho hb _
      have HO2 := Lib.hid ho
      have HB2 := Lib.hid hb
      clear ho hb
      go_wp2
      go_roundw
      case rel => exact ⟨k + 1, by go_num, by omega, Lib.hid (by rw [HS.out, Lib.byteCells_append]; have := HO2.out; rw [HCI.out] at this; exact this), HB2⟩
      case measure => simp [intOf] <;> omega
    · obtain rfl : k = s.size := by omega
      have ho := HO.out
      rw [List.take_of_length_le (by rw [foldL_len]; omega)] at ho
      obtain ⟨A, c, rfl, hr⟩ := Rd.own ho
      have hc : (convert 36 9 (.slice A s.size c)).run Tryd.prog wr = .ok (.string (foldB s)) wr := by
        have e := foldL_len s
        have := conv_bytes (w := wr) (A := A) (c := c) (l := foldL s) (by rw [e]; exact hr)
        rw [e] at this
        exact this
      clear ho hr HO
      go_wp2
      go_ret
      exact ⟨rfl, HB.out⟩

theorem toList_empty (s : ByteArray) : s.toList.isEmpty = decide (s.size = 0) := by
  rw [ByteArray.toList_eq]
  have : s.data.toList.length = s.size := by simp
  cases h : s.data.toList with
  | nil => rw [h] at this; simp at this; simp [← this]
  | cons a b =>
    rw [h, List.length_cons] at this
    rw [decide_eq_false (by omega)]
    rfl

end Go.Proofs.YtcnmdagbmngaeaaDoor
