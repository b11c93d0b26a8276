/- slices.Grow and slices.Concat at []int: Go's own text, walked. -/
import Derived.Test.YtfoolkidcdoicaaRows
import Derived.Test.YtfoolkidcdoicaaApp2
import Derived.WalkKit
import Derived.WalkSpells
import Derived.WalkLawsBesides
import Derived.Handy
namespace Go.Proofs.Ytfoolkidcdoicaa
open Go.RowKit

theorem infoInt : (Try.prog.info? 3).map (fun i => (i.zero, i.size, i.bytes)) = some (some (.int .i64 0), 1, 8) := by kernel_rfl

set_option maxHeartbeats 1000000 in
theorem Grow_nil (n : Nat) (w : World) (hn : n * 8 ≤ 140737488355328) :
    Calls Try.prog 20 #[.slice none 0 0, .int .i64 n] w fun e w' => ∃ v, e = .returned v ∧ w'.ownsRow w.heap.size 3 1 v 0 [] ∧ Below w.heap.size w w' := by
  by_cases h0 : n = 0
  · subst h0
    go_enter Try.func20, Try.ntmps20
    go_wp2
    go_ret
    exact ⟨_, rfl, ⟨rfl, .inl ⟨rfl, rfl⟩⟩, Below.refl _ _⟩
  · go_enter Try.func20, Try.ntmps20
    go_wp2_with (with_reducible refine wp_make_nil (w0 := w) rfl (.tmp 20) (.tmp 21) 22 3 3 (.int .i64 0) 1 8 rfl Try.underlying22 Try.underlying3 infoInt rfl (by decide) (by decide) w.heap.size .i64 _ n rfl rfl rfl (by omega) hn (Nat.le_refl _) (Below.refl _ _) ?_)
    intro g cap w' ho hg hc1 hc2 hb
    have HO := Lib.hid ho
    have HB := Lib.hid hb
    unfold maxLen at hc2
    clear ho hb
    go_wp2
    go_ret
    exact ⟨_, rfl, own_cut0 HO.out, HB.out⟩

/-- What the slices that are handed to Concat hold. -/
structure Parts (w : World) (g : Nat) (ps : List (Option Addr × Nat × List Int)) : Prop where
  val : ∀ j p, ps[j]? = some p → w.cell? ⟨g, j, none⟩ = some (.slice p.1 p.2.2.length p.2.1)
  rd : ∀ p ∈ ps, RdI w .i64 p.1 p.2.1 p.2.2
def cat (ps : List (Option Addr × Nat × List Int)) : List Int := ps.flatMap fun p => p.2.2

theorem cat_snoc (ps : List (Option Addr × Nat × List Int)) (k : Nat) (h : k < ps.length) : cat (ps.take (k + 1)) = cat (ps.take k) ++ (ps[k]'h).2.2 := by
  rw [cat, List.take_succ_eq_append_getElem h, List.flatMap_append]
  simp [cat]
theorem cat_take_le (ps : List (Option Addr × Nat × List Int)) (k : Nat) : (cat (ps.take k)).length ≤ (cat ps).length := by
  have e : cat ps = cat (ps.take k) ++ cat (ps.drop k) := by
    rw [cat, cat, cat, ← List.flatMap_append, List.take_append_drop]
  rw [e, List.length_append]
  omega

set_option maxHeartbeats 1000000 in
theorem Concat_any (g c : Nat) (ps : List (Option Addr × Nat × List Int)) (w : World) (h : Parts w g ps) (hl : (cat ps).length * 8 ≤ 140737488355328) (hps : ps.length ≤ 1000) :
    Calls Try.prog 18 #[.slice (some ⟨g, 0, none⟩) ps.length c] w fun e w' => ∃ v, e = .returned v ∧ w'.ownsRow w.heap.size 3 1 v (cat ps).length (nums .i64 (cat ps)) ∧ Below w.heap.size w w' := by
  have H := Lib.hid h
  clear h
  go_enter Try.func18, Try.ntmps18
  go_wp2_with fail
  go_loop [3, 11] (fun z i => ∃ k m : Nat, i = .int .i64 k ∧ k ≤ ps.length ∧ z = .int .i64 m ∧ m ≤ (cat ps).length ∧ Hid (m = (cat (ps.take k)).length)) (fun _ i => ps.length - (intOf i).toNat)
  case atStart => exact ⟨0, 0, rfl, by omega, rfl, by omega, Lib.hid rfl⟩
  case round =>
    obtain ⟨k, m, rfl, hk, rfl, hm, HM⟩ := hrel
    by_cases hlt : k < ps.length
    · have hv := H.out.val k _ (List.getElem?_eq_getElem hlt)
      have hr := H.out.rd _ (List.getElem_mem hlt)
      have hs := cat_snoc ps k hlt
      have hle := cat_take_le ps (k + 1)
      rw [hs, List.length_append] at hle
      have hm2 := HM.out
      have hr1 := hr.le
      have hr2 := hr.cap
      unfold maxLen at hr2
      generalize ps[k] = p at hv hr hs hle hr1 hr2
      obtain ⟨A, c1, xs⟩ := p
      simp only at hv hr hs hle hr1 hr2
      rw [← hm2] at hle
      have HS := Lib.hid hs
      clear hs hm2 hr
      go_wp2
      go_round
      case rel => exact ⟨k + 1, m + xs.length, by go_num, by omega, by go_num, by omega, Lib.hid (by rw [HS.out, List.length_append, ← HM.out])⟩
      case measure => simp [intOf] <;> omega
    · obtain rfl : k = ps.length := by omega
      have hm2 := HM.out
      rw [List.take_length] at hm2
      subst hm2
      go_wp2_with fail
      refine (Grow_nil (cat ps).length w hl).mono ?_
      rintro e w1 ⟨v, rfl, ho, hb⟩
      have HO := Lib.hid ho
      have HB := Lib.hid hb
      clear ho hb
      go_wp2_with fail
      go_loopw [6, 27] (fun x i wr => ∃ k : Nat, i = .int .i64 k ∧ k ≤ ps.length ∧ Hid (wr.ownsRow w.heap.size 3 1 x (cat (ps.take k)).length (nums .i64 (cat (ps.take k)))) ∧ Hid (Below w.heap.size w wr)) (fun _ i _ => ps.length - (intOf i).toNat)
      case atStart => exact ⟨0, rfl, by omega, HO, HB⟩
      case round =>
        obtain ⟨k, rfl, hk, HO2, HB2⟩ := hrel
        by_cases hlt : k < ps.length
        · have hv := H.out.val k _ (List.getElem?_eq_getElem hlt)
          have hr := H.out.rd _ (List.getElem_mem hlt)
          have hs := cat_snoc ps k hlt
          have hle := cat_take_le ps (k + 1)
          rw [hs, List.length_append] at hle
          have hv2 := (HB2.out.cell (World.block_lt_of_cell? w _ hv)).trans hv
          generalize ps[k] = p at hv hr hs hle hv2
          obtain ⟨A, c1, xs⟩ := p
          simp only at hv hr hs hle hv2
          have HS := Lib.hid hs
          have HR := Lib.hid (hr.below HB2.out)
          clear hs hr hv
          go_wp2_with (refine wp_app (w0 := w) rfl (.tmp 31) (.tmp 32) 22 3 (.int .i64 0) 1 8 rfl Try.underlying22 infoInt rfl (by decide) (by decide) w.heap.size _ (cat (ps.take k)).length (nums .i64 (cat (ps.take k))) rfl HO2.out A xs.length c1 (nums .i64 xs) rfl HR.out (nums_one _ _) (by omega) HB2.out.size HB2.out ?_)
          intro v2 w2 ho hb _
          have HO3 := Lib.hid ho
          have HB3 := Lib.hid hb
          clear ho hb
          go_wp2
          go_roundw
          case rel => exact ⟨k + 1, by go_num, by omega, Lib.hid (by rw [HS.out, List.length_append, show nums .i64 (cat (ps.take k) ++ xs) = nums .i64 (cat (ps.take k)) ++ nums .i64 xs by simp [nums]]; exact HO3.out), HB3⟩
          case measure => simp [intOf] <;> omega
        · obtain rfl : k = ps.length := by omega
          have ho := HO2.out
          rw [List.take_length] at ho
          have HO3 := Lib.hid ho
          clear ho
          go_wp2
          go_ret
          exact ⟨_, rfl, HO3.out, HB2.out⟩

/-- Of two; of three. -/
theorem Concat2 (A B : Option Addr) (c cb : Nat) (xs ys : List Int) (w : World) (hx : RdI w .i64 A c xs) (hy : RdI w .i64 B cb ys) (hl : (xs.length + ys.length) * 8 ≤ 140737488355328) :
    Calls Try.prog 18 #[.slice (some ⟨w.heap.size, 0, none⟩) 2 2] (w.alloc (.cells #[.slice A xs.length c, .slice B ys.length cb] 22)) fun e w' => ∃ v, e = .returned v ∧ w'.ownsRow w.heap.size 3 1 v (xs ++ ys).length (nums .i64 (xs ++ ys)) ∧ Below w.heap.size w w' := by
  have hb := (Below.refl w.heap.size w).alloc (Nat.le_refl _) (.cells #[.slice A xs.length c, .slice B ys.length cb] 22)
  have hp : Parts (w.alloc (.cells #[.slice A xs.length c, .slice B ys.length cb] 22)) w.heap.size [(A, c, xs), (B, cb, ys)] := by
    refine ⟨fun j p hj => ?_, fun p hp => ?_⟩
    · rw [World.cell?_alloc_at _ _ _ _ rfl]
      rcases j with _ | _ | j
      · cases hj; rfl
      · cases hj; rfl
      · simp at hj
    · rcases List.mem_cons.1 hp with rfl | hp
      · exact hx.below hb
      · rcases List.mem_cons.1 hp with rfl | hp
        · exact hy.below hb
        · simp at hp
  have e : cat [(A, c, xs), (B, cb, ys)] = xs ++ ys := by simp [cat]
  have := Concat_any w.heap.size 2 _ _ hp (by rw [e, List.length_append]; exact hl) (by simp)
  rw [e] at this
  refine this.mono ?_
  rintro e w' ⟨v, rfl, ho, hbl⟩
  exact ⟨v, rfl, own_mono ho (by simp), below_two hb hbl⟩
theorem Concat3 (A B C : Option Addr) (c cb cc : Nat) (xs ys zs : List Int) (w : World) (hx : RdI w .i64 A c xs) (hy : RdI w .i64 B cb ys) (hz : RdI w .i64 C cc zs) (hl : (xs.length + ys.length + zs.length) * 8 ≤ 140737488355328) :
    Calls Try.prog 18 #[.slice (some ⟨w.heap.size, 0, none⟩) 3 3] (w.alloc (.cells #[.slice A xs.length c, .slice B ys.length cb, .slice C zs.length cc] 22)) fun e w' => ∃ v, e = .returned v ∧ w'.ownsRow w.heap.size 3 1 v (xs ++ ys ++ zs).length (nums .i64 (xs ++ ys ++ zs)) ∧ Below w.heap.size w w' := by
  have hb := (Below.refl w.heap.size w).alloc (Nat.le_refl _) (.cells #[.slice A xs.length c, .slice B ys.length cb, .slice C zs.length cc] 22)
  have hp : Parts (w.alloc (.cells #[.slice A xs.length c, .slice B ys.length cb, .slice C zs.length cc] 22)) w.heap.size [(A, c, xs), (B, cb, ys), (C, cc, zs)] := by
    refine ⟨fun j p hj => ?_, fun p hp => ?_⟩
    · rw [World.cell?_alloc_at _ _ _ _ rfl]
      rcases j with _ | _ | _ | j
      · cases hj; rfl
      · cases hj; rfl
      · cases hj; rfl
      · simp at hj
    · rcases List.mem_cons.1 hp with rfl | hp
      · exact hx.below hb
      · rcases List.mem_cons.1 hp with rfl | hp
        · exact hy.below hb
        · rcases List.mem_cons.1 hp with rfl | hp
          · exact hz.below hb
          · simp at hp
  have e : cat [(A, c, xs), (B, cb, ys), (C, cc, zs)] = xs ++ ys ++ zs := by simp [cat]
  have := Concat_any w.heap.size 3 _ _ hp (by rw [e, List.length_append, List.length_append]; exact hl) (by simp)
  rw [e] at this
  refine this.mono ?_
  rintro e w' ⟨v, rfl, ho, hbl⟩
  exact ⟨v, rfl, own_mono ho (by simp), below_two hb hbl⟩
theorem Concat3_len (A B C : Option Addr) (c cb cc n1 n2 n3 : Nat) (xs ys zs : List Int) (w : World) (h1 : xs.length = n1) (h2 : ys.length = n2) (h3 : zs.length = n3) (hx : RdI w .i64 A c xs) (hy : RdI w .i64 B cb ys) (hz : RdI w .i64 C cc zs) (hl : (n1 + n2 + n3) * 8 ≤ 140737488355328) :
    Calls Try.prog 18 #[.slice (some ⟨w.heap.size, 0, none⟩) 3 3] (w.alloc (.cells #[.slice A n1 c, .slice B n2 cb, .slice C n3 cc] 22)) fun e w' => ∃ v, e = .returned v ∧ w'.ownsRow w.heap.size 3 1 v (xs ++ ys ++ zs).length (nums .i64 (xs ++ ys ++ zs)) ∧ Below w.heap.size w w' := by
  subst h1 h2 h3
  exact Concat3 A B C c cb cc xs ys zs w hx hy hz hl
end Go.Proofs.Ytfoolkidcdoicaa
