/- slices.Grow and slices.Concat at []byte: Go's own text, walked. -/
import Derived.Test.YtaegphgjdffgaaaNum16
import Derived.Test.YtaegphgjdffgaaaApp2
import Derived.WalkKit
import Derived.WalkSpells
import Derived.WalkLawsBesides
import Derived.Handy
namespace Go.Proofs.Ytaegphgjdffgaaa
open Go.RowKit


set_option maxHeartbeats 1000000 in
theorem Grow_nil (n : Nat) (w : World) (hn : n * 1 ≤ 140737488355328) :
    Calls Try.prog 27 #[.slice none 0 0, .int .i64 n] w fun e w' => ∃ v, e = .returned v ∧ w'.ownsRow w.heap.size 5 1 v 0 [] ∧ Below w.heap.size w w' := by
  by_cases h0 : n = 0
  · subst h0
    go_enter Try.func27, Try.ntmps27
    go_wp2
    go_ret
    exact ⟨_, rfl, ⟨rfl, .inl ⟨rfl, rfl⟩⟩, Below.refl _ _⟩
  · go_enter Try.func27, Try.ntmps27
    go_wp2_with (with_reducible refine wp_make_nil (w0 := w) rfl (.tmp 20) (.tmp 21) 22 3 5 (.int .u8 0) 1 1 rfl Try.underlying22 Try.underlying3 infoU8 rfl (by decide) (by decide) w.heap.size .i64 _ n rfl rfl rfl (by omega) hn (Nat.le_refl _) (Below.refl _ _) ?_)
    intro g cap w' ho hg hc1 hc2 hb
    have HO := Lib.hid ho
    have HB := Lib.hid hb
    unfold maxLen at hc2
    clear ho hb
    go_wp2
    go_ret
    exact ⟨_, rfl, own_cut0 HO.out, HB.out⟩

/-- What the slices that are handed to Concat hold. -/
structure Parts (w : World) (g : Nat) (ps : List (Option Addr × Nat × List Int)) : Prop where
  val : ∀ j p, ps[j]? = some p → w.cell? ⟨g, j, none⟩ = some (.slice p.1 p.2.2.length p.2.1)
  rd : ∀ p ∈ ps, RdI w .u8 p.1 p.2.1 p.2.2
def cat (ps : List (Option Addr × Nat × List Int)) : List Int := ps.flatMap fun p => p.2.2

theorem cat_snoc (ps : List (Option Addr × Nat × List Int)) (k : Nat) (h : k < ps.length) : cat (ps.take (k + 1)) = cat (ps.take k) ++ (ps[k]'h).2.2 := by
  rw [cat, List.take_succ_eq_append_getElem h, List.flatMap_append]
  simp [cat]
theorem cat_take_le (ps : List (Option Addr × Nat × List Int)) (k : Nat) : (cat (ps.take k)).length ≤ (cat ps).length := by
  have e : cat ps = cat (ps.take k) ++ cat (ps.drop k) := by
    rw [cat, cat, cat, ← List.flatMap_append, List.take_append_drop]
  rw [e, List.length_append]
  omega

set_option maxHeartbeats 1000000 in
theorem Concat_any (g c : Nat) (ps : List (Option Addr × Nat × List Int)) (w : World) (h : Parts w g ps) (hl : (cat ps).length * 1 ≤ 140737488355328) (hps : ps.length ≤ 1000) :
    Calls Try.prog 23 #[.slice (some ⟨g, 0, none⟩) ps.length c] w fun e w' => ∃ v, e = .returned v ∧ w'.ownsRow w.heap.size 5 1 v (cat ps).length (nums .u8 (cat ps)) ∧ Below w.heap.size w w' := by
  have H := Lib.hid h
  clear h
  go_enter Try.func23, Try.ntmps23
  go_wp2_with fail
  go_loop [3, 11] (fun z i => ∃ k m : Nat, i = .int .i64 k ∧ k ≤ ps.length ∧ z = .int .i64 m ∧ m ≤ (cat ps).length ∧ Hid (m = (cat (ps.take k)).length)) (fun _ i => ps.length - (intOf i).toNat)
  case atStart => exact ⟨0, 0, rfl, by omega, rfl, by omega, Lib.hid rfl⟩
  case round =>
    obtain ⟨k, m, rfl, hk, rfl, hm, HM⟩ := hrel
    by_cases hlt : k < ps.length
    · have hv := H.out.val k _ (List.getElem?_eq_getElem hlt)
      have hr := H.out.rd _ (List.getElem_mem hlt)
      have hs := cat_snoc ps k hlt
      have hle := cat_take_le ps (k + 1)
      rw [hs, List.length_append] at hle
      have hm2 := HM.out
      have hr1 := hr.le
      have hr2 := hr.cap
      unfold maxLen at hr2
      generalize ps[k] = p at hv hr hs hle hr1 hr2
      obtain ⟨A, c1, xs⟩ := p
      simp only at hv hr hs hle hr1 hr2
      rw [← hm2] at hle
      have HS := Lib.hid hs
      clear hs hm2 hr
      go_wp2
      go_round
      case rel => exact ⟨k + 1, m + xs.length, by go_num, by omega, by go_num, by omega, Lib.hid (by rw [HS.out, List.length_append, ← HM.out])⟩
      case measure => simp [intOf] <;> omega
    · obtain rfl : k = ps.length := by omega
      have hm2 := HM.out
      rw [List.take_length] at hm2
      subst hm2
      go_wp2_with fail
      refine (Grow_nil (cat ps).length w hl).mono ?_
      rintro e w1 ⟨v, rfl, ho, hb⟩
      have HO := Lib.hid ho
      have HB := Lib.hid hb
      clear ho hb
      go_wp2_with fail
      go_loopw [6, 27] (fun x i wr => ∃ k : Nat, i = .int .i64 k ∧ k ≤ ps.length ∧ Hid (wr.ownsRow w.heap.size 5 1 x (cat (ps.take k)).length (nums .u8 (cat (ps.take k)))) ∧ Hid (Below w.heap.size w wr)) (fun _ i _ => ps.length - (intOf i).toNat)
      case atStart => exact ⟨0, rfl, by omega, HO, HB⟩
      case round =>
        obtain ⟨k, rfl, hk, HO2, HB2⟩ := hrel
        by_cases hlt : k < ps.length
        · have hv := H.out.val k _ (List.getElem?_eq_getElem hlt)
          have hr := H.out.rd _ (List.getElem_mem hlt)
          have hs := cat_snoc ps k hlt
          have hle := cat_take_le ps (k + 1)
          rw [hs, List.length_append] at hle
          have hv2 := (HB2.out.cell (World.block_lt_of_cell? w _ hv)).trans hv
          generalize ps[k] = p at hv hr hs hle hv2
          obtain ⟨A, c1, xs⟩ := p
          simp only at hv hr hs hle hv2
          have HS := Lib.hid hs
          have HR := Lib.hid (hr.below HB2.out)
          clear hs hr hv
          go_wp2_with (refine wp_app (w0 := w) rfl (.tmp 31) (.tmp 32) 22 5 (.int .u8 0) 1 1 rfl Try.underlying22 infoU8 rfl (by decide) (by decide) w.heap.size _ (cat (ps.take k)).length (nums .u8 (cat (ps.take k))) rfl HO2.out A xs.length c1 (nums .u8 xs) rfl HR.out (nums_one _ _) (by omega) HB2.out.size HB2.out ?_)
          intro v2 w2 ho hb _
          have HO3 := Lib.hid ho
          have HB3 := Lib.hid hb
          clear ho hb
          go_wp2
          go_roundw
          case rel => exact ⟨k + 1, by go_num, by omega, Lib.hid (by rw [HS.out, List.length_append, show nums .u8 (cat (ps.take k) ++ xs) = nums .u8 (cat (ps.take k)) ++ nums .u8 xs by simp [nums]]; exact HO3.out), HB3⟩
          case measure => simp [intOf] <;> omega
        · obtain rfl : k = ps.length := by omega
          have ho := HO2.out
          rw [List.take_length] at ho
          have HO3 := Lib.hid ho
          clear ho
          go_wp2
          go_ret
          exact ⟨_, rfl, HO3.out, HB2.out⟩

/-- Of two; of three. -/
theorem Concat2 (A B : Option Addr) (c cb : Nat) (xs ys : List Int) (w : World) (hx : RdI w .u8 A c xs) (hy : RdI w .u8 B cb ys) (hl : (xs.length + ys.length) * 1 ≤ 140737488355328) :
    Calls Try.prog 23 #[.slice (some ⟨w.heap.size, 0, none⟩) 2 2] (w.alloc (.cells #[.slice A xs.length c, .slice B ys.length cb] 22)) fun e w' => ∃ v, e = .returned v ∧ w'.ownsRow w.heap.size 5 1 v (xs ++ ys).length (nums .u8 (xs ++ ys)) ∧ Below w.heap.size w w' := by
  have hb := (Below.refl w.heap.size w).alloc (Nat.le_refl _) (.cells #[.slice A xs.length c, .slice B ys.length cb] 22)
  have hp : Parts (w.alloc (.cells #[.slice A xs.length c, .slice B ys.length cb] 22)) w.heap.size [(A, c, xs), (B, cb, ys)] := by
    refine ⟨fun j p hj => ?_, fun p hp => ?_⟩
    · rw [World.cell?_alloc_at _ _ _ _ rfl]
      rcases j with _ | _ | j
      · cases hj; rfl
      · cases hj; rfl
      · simp at hj
    · rcases List.mem_cons.1 hp with rfl | hp
      · exact hx.below hb
      · rcases List.mem_cons.1 hp with rfl | hp
        · exact hy.below hb
        · simp at hp
  have e : cat [(A, c, xs), (B, cb, ys)] = xs ++ ys := by simp [cat]
  have := Concat_any w.heap.size 2 _ _ hp (by rw [e, List.length_append]; exact hl) (by simp)
  rw [e] at this
  refine this.mono ?_
  rintro e w' ⟨v, rfl, ho, hbl⟩
  exact ⟨v, rfl, own_mono ho (by simp), below_two hb hbl⟩

set_option maxHeartbeats 1000000 in
theorem Text_any (A : Option Addr) (c : Nat) (b : List Int) (w : World) (hx : RdI w .u8 A c b) (hb : b.length ≤ 1000000) :
    Calls Try.prog 11 #[.slice A b.length c] w fun e w' => ∃ x, e = .returned x ∧ w'.ownsRow w.heap.size 5 1 x (grp (zz b.length) ++ b).length (nums .u8 (grp (zz b.length) ++ b)) ∧ Below w.heap.size w w' := by
  have HX := Lib.hid hx
  clear hx
  obtain ⟨l, hl⟩ : ∃ l, grp (zz b.length) = l := ⟨_, rfl⟩
  have hlen := grp_len (zz_lt (n := b.length) (by omega) (by omega))
  rw [hl] at hlen ⊢
  have HL := Lib.hid hl
  clear hl
  go_enter Try.func11, Try.ntmps11
  go_wp2_with fail
  refine (Num_any b.length w (by omega) (by omega) l l.length HL.out rfl).mono ?_
  rintro e w1 ⟨x, rfl, ho, hb⟩
  obtain ⟨A1, c1, rfl, hr⟩ := Rd.own ho
  have HR := Lib.hid hr
  (replace HX := Lib.hid (Rd.below (Hid.out HX) hb))
  have HB := Lib.hid hb
  clear ho hb hr
  go_wp2_with fail
  refine (Concat2 A1 A c1 c l b w1 HR.out HX.out (by omega)).mono ?_
  rintro e w2 ⟨x, rfl, ho, hb⟩
  have HO := Lib.hid (own_mono ho HB.out.size)
  have HB := Lib.hid (below_two HB.out hb)
  clear ho hb
  go_wp2
  go_ret
  exact ⟨_, rfl, HO.out, HB.out⟩
end Go.Proofs.Ytaegphgjdffgaaa
