/-  -/
import Derived.Test.YtappfhjknihboaaGreatDoorMA
import Derived.Test.YtappfhjknihboaaGreatDoorRows
import Derived.WalkKit
import Derived.WalkSpells
import Derived.WalkLawsBesides
import Derived.Handy
import Derived.Deep.QuietTactic
import Derived.BigQuiet
import Derived.StillTailTactics

/- append(nil, make([]T, n)...): no program in sight. -/
namespace Go.Proofs.YtappfhjknihboaaGreatDoor
open Go.RowKit

theorem zeroCells_one (z : Value) (m : Nat) : (Builtin.zeroCells #[z] m).toList = List.replicate m z := by
  simp [Builtin.zeroCells, List.map_const', Nat.mod_one]

theorem run_make_nil {P : Program} (w : World) (base : Nat) (t ti ty e : TypeId) (i : TypeInfo) (z : Value) (size bytes : Nat) (ht : P.underlying t = some (.slice e)) {k : IntKind} (hti : P.underlying ti = some (.int k)) (hi : P.info? e = some i) (hz : i.zero = some z)
    (hsize : i.size = size) (hby : i.bytes = bytes) (hzs : z.cells.size = size) (hsz : 0 < size) (hb0 : 0 < bytes) (kx : IntKind) (m : Nat) (hm : 0 < m) (hbytes : m * bytes ≤ 140737488355328) (hbase : base ≤ w.heap.size) :
    ∃ cap w', (Builtin.append_ #[t, ti] ty #[.slice none 0 0, .int kx m]).run P w = .ok (.slice (some ⟨w.heap.size, 0, none⟩) m cap) w' ∧ w'.ownsRow base e size (.slice (some ⟨w.heap.size, 0, none⟩) m cap) m (Builtin.zeroCells z.cells m).toList ∧ Below w.heap.size w w' := by
  subst hsize
  subst hby
  have hle : m ≤ 140737488355328 := Nat.le_trans (Nat.le_mul_of_pos_right _ hb0) hbytes
  have h63 : m ≤ maxLen := by simp only [maxLen]; omega
  have hw : IntKind.i64.wrap (m : Int) = m := by rw [IntKind.wrap_i64]; omega
  have hneg : ¬ ((m : Int) < 0) := by omega
  have hbig : ¬ (281474976710656 < (m : Int) * (i.bytes : Int)) := by
    rw [← Int.natCast_mul]
    omega
  have hsn : i.size ≠ 0 := by omega
  obtain ⟨news, hnews⟩ : ∃ news, news = (Builtin.zeroCells z.cells m).toList := ⟨_, rfl⟩
  rw [← hnews]
  have hl : news.length = m * i.size := by rw [hnews, Array.length_toList, size_zeroCells, hzs]
  have hna : Builtin.zeroCells z.cells m = news.toArray := by rw [hnews]
  have hge := grownCap_ge w m 0 e
  have hcm : grownCap w m 0 e ≤ maxLen := grownCap_le_maxLen w m 0 e h63
  refine ⟨grownCap w m 0 e, w.drew.alloc (.cells (news.toArray ++ Builtin.zeroCells z.cells (grownCap w m 0 e - m)) e), ?_, ⟨hl, .inr ⟨w.heap.size, _, _, rfl, hbase, heap_alloc_new w.drew _, hge, hcm, ?_, ?_⟩⟩, ?_⟩
  · have hn : ¬ (m ≤ 0) := by omega
    have h63' : ¬ (9223372036854775807 < (m : Int)) := by omega
    have hfit := growslice_fits (need := m) (old := 0) (bytes := i.bytes) (by omega) hbytes
    have h48' : ¬ (281474976710656 < Builtin.nextslicecap m 0 * i.bytes) := by omega
    have hmz : ¬ (m * i.size = 0) := Nat.mul_ne_zero (by omega) hsn
    have hm0 : ¬ m = 0 := by omega
    simp [Builtin.append_, Builtin.firstCells, run_underlying ht, run_underlying hti, sizeOf, typeInfo, zeroValue, hi, hz, asInt, asIntOf, hw, hneg, hbig, h63', h48', Question.forced, newRow, grownCap, hmz, hna, hm0]
    try rfl
  · simp only [Array.size_append, List.size_toArray, size_zeroCells, hzs, hl, ← Nat.add_mul]
    congr 1
    omega
  · simp only [Array.toList_append]
    rw [← hl]
    exact List.take_left
  · exact ((Below.refl _ _).drew).alloc (Nat.le_refl _) _

/-- The operation, in a walk. -/
theorem wp_make_nil {P : Program} {ops : Array Oper} {rest : List Oper} {o : Oper} {a : Act} {Q : Exit → Act → World → Prop} {w0 w : World} (hgd : o.guard = none) (s x : Operand) (t ti e : TypeId) (z : Value) (size bytes : Nat)
    (ho : o.op = .call { callee := .builtin .append, args := #[s, x], argTypes := #[t, ti] }) (ht : P.underlying t = some (.slice e)) {k : IntKind} (hti : P.underlying ti = some (.int k))
    (hinfo : (P.info? e).map (fun i => (i.zero, i.size, i.bytes)) = some (some z, size, bytes)) (hzs : z.cells.size = size) (hsz : 0 < size) (hb0 : 0 < bytes)
    (B : Nat) (kx : IntKind) (M : Int) (m : Nat) (hM : M = (m : Int)) (hs : a.eval s = .slice none 0 0) (hx : a.eval x = .int kx M) (hm : 0 < m) (hbytes : m * bytes ≤ 140737488355328) (hB : B ≤ w.heap.size) (hbel : Below B w0 w)
    (h : ∀ g cap w', w'.ownsRow B e size (.slice (some ⟨g, 0, none⟩) m cap) m (Builtin.zeroCells z.cells m).toList → B ≤ g → m ≤ cap → cap ≤ maxLen → Below B w0 w' → wpList P ops Q rest (a.put o.dst (.slice (some ⟨g, 0, none⟩) m cap)) w') : wpList P ops Q (o :: rest) a w := by
  obtain ⟨i0, hi, hzz⟩ := Option.map_eq_some_iff.1 hinfo
  simp only [Prod.mk.injEq] at hzz
  obtain ⟨hz0, hz1, hz2⟩ := hzz
  subst hM
  obtain ⟨cap, w', hrun, hown, hbl⟩ := run_make_nil (P := P) w B t ti o.type e i0 z size bytes ht hti hi hz0 hz1 hz2 hzs hsz hb0 kx m hm hbytes hB
  refine wpList_plain hgd fun K hK => ?_
  unfold Oper.wp
  simp [execOp, ho, resolve, invoke, builtin, hs, hx, hrun, Result.andThen]
  refine hK _ _ (h w.heap.size cap w' hown hB ?_ ?_ (hbel.trans (hbl.mono hB)))
  · obtain ⟨g, c, e1, _, _, h1, h2⟩ := own_form hown hm
    cases e1
    exact h1
  · obtain ⟨g, c, e1, _, _, h1, h2⟩ := own_form hown hm
    cases e1
    exact h2

/-- A row that is cut to nothing. -/
theorem own_cut0 {w : World} {B g n cap size : Nat} {e : TypeId} {xs : List Value} (h : w.ownsRow B e size (.slice (some ⟨g, 0, none⟩) n cap) n xs) : w.ownsRow B e size (.slice (some ⟨g, 0, none⟩) 0 cap) 0 [] := by
  rcases h.2 with ⟨h', _⟩ | ⟨g', cap', cur, h', hb, hh, h1, h2, h3, h4⟩
  · simp at h'
  · simp only [Value.slice.injEq, Option.some.injEq, Addr.mk.injEq, and_true, true_and] at h'
    obtain ⟨rfl, rfl⟩ := h'
    exact ⟨by simp, .inr ⟨g, cap, cur, rfl, hb, hh, Nat.zero_le _, h2, h3, by simp⟩⟩
end Go.Proofs.YtappfhjknihboaaGreatDoor


/- slices.Grow and slices.Concat at []int: Go's own text, walked. -/
namespace Go.Proofs.YtappfhjknihboaaGreatDoor.L04
open Go.RowKit

theorem infoInt : (Tryz.prog.info? 3).map (fun i => (i.zero, i.size, i.bytes)) = some (some (.int .i64 0), 1, 8) := by kernel_rfl

set_option maxHeartbeats 1000000 in
theorem Grow_nil (n : Nat) (w : World) (hn : n * 8 ≤ 140737488355328) :
    Calls Tryz.prog 143 #[.slice none 0 0, .int .i64 n] w fun e w' => ∃ v, e = .returned v ∧ w'.ownsRow w.heap.size 3 1 v 0 [] ∧ Below w.heap.size w w' := by
  by_cases h0 : n = 0
  · subst h0
    go_enter Tryz.func143, Tryz.ntmps143
    go_wp2
    go_ret
    exact ⟨_, rfl, ⟨rfl, .inl ⟨rfl, rfl⟩⟩, Below.refl _ _⟩
  · go_enter Tryz.func143, Tryz.ntmps143
    go_wp2_with (with_reducible refine wp_make_nil (w0 := w) rfl (.tmp 20) (.tmp 21) 23 3 3 (.int .i64 0) 1 8 rfl Tryz.underlying23 Tryz.underlying3 infoInt rfl (by decide) (by decide) w.heap.size .i64 _ n rfl rfl rfl (by omega) hn (Nat.le_refl _) (Below.refl _ _) ?_)
    intro g cap w' ho hg hc1 hc2 hb
    have HO := Lib.hid ho
    have HB := Lib.hid hb
    unfold maxLen at hc2
    clear ho hb
    go_wp2
    go_ret
    exact ⟨_, rfl, own_cut0 HO.out, HB.out⟩

/-- What the slices that are handed to Concat hold. -/
structure Parts (w : World) (g : Nat) (ps : List (Option Addr × Nat × List Int)) : Prop where
  val : ∀ j p, ps[j]? = some p → w.cell? ⟨g, j, none⟩ = some (.slice p.1 p.2.2.length p.2.1)
  rd : ∀ p ∈ ps, RdI w .i64 p.1 p.2.1 p.2.2
def cat (ps : List (Option Addr × Nat × List Int)) : List Int := ps.flatMap fun p => p.2.2

theorem cat_snoc (ps : List (Option Addr × Nat × List Int)) (k : Nat) (h : k < ps.length) : cat (ps.take (k + 1)) = cat (ps.take k) ++ (ps[k]'h).2.2 := by
  rw [cat, List.take_succ_eq_append_getElem h, List.flatMap_append]
  simp [cat]
theorem cat_take_le (ps : List (Option Addr × Nat × List Int)) (k : Nat) : (cat (ps.take k)).length ≤ (cat ps).length := by
  have e : cat ps = cat (ps.take k) ++ cat (ps.drop k) := by
    rw [cat, cat, cat, ← List.flatMap_append, List.take_append_drop]
  rw [e, List.length_append]
  omega

set_option maxHeartbeats 1000000 in
theorem Concat_any (g c : Nat) (ps : List (Option Addr × Nat × List Int)) (w : World) (h : Parts w g ps) (hl : (cat ps).length * 8 ≤ 140737488355328) (hps : ps.length ≤ 1000) :
    Calls Tryz.prog 131 #[.slice (some ⟨g, 0, none⟩) ps.length c] w fun e w' => ∃ v, e = .returned v ∧ w'.ownsRow w.heap.size 3 1 v (cat ps).length (nums .i64 (cat ps)) ∧ Below w.heap.size w w' := by
  have H := Lib.hid h
  clear h
  go_enter Tryz.func131, Tryz.ntmps131
  go_wp2_with fail
  go_loop [3, 11] (fun z i => ∃ k m : Nat, i = .int .i64 k ∧ k ≤ ps.length ∧ z = .int .i64 m ∧ m ≤ (cat ps).length ∧ Hid (m = (cat (ps.take k)).length)) (fun _ i => ps.length - (intOf i).toNat)
  case atStart => exact ⟨0, 0, rfl, by omega, rfl, by omega, Lib.hid rfl⟩
  case round =>
    obtain ⟨k, m, rfl, hk, rfl, hm, HM⟩ := hrel
    by_cases hlt : k < ps.length
    · have hv := H.out.val k _ (List.getElem?_eq_getElem hlt)
      have hr := H.out.rd _ (List.getElem_mem hlt)
      have hs := cat_snoc ps k hlt
      have hle := cat_take_le ps (k + 1)
      rw [hs, List.length_append] at hle
      have hm2 := HM.out
      have hr1 := hr.le
      have hr2 := hr.cap
      unfold maxLen at hr2
      generalize ps[k] = p at hv hr hs hle hr1 hr2
      obtain ⟨A, c1, xs⟩ := p
      simp only at hv hr hs hle hr1 hr2
      rw [← hm2] at hle
      have HS := Lib.hid hs
      clear hs hm2 hr
      go_wp2
      go_round
      case rel => exact ⟨k + 1, m + xs.length, by go_num, by omega, by go_num, by omega, Lib.hid (by rw [HS.out, List.length_append, ← HM.out])⟩
      case measure => simp [intOf] <;> omega
    · obtain rfl : k = ps.length := by omega
      have hm2 := HM.out
      rw [List.take_length] at hm2
      subst hm2
      go_wp2_with fail
      refine (Grow_nil (cat ps).length w hl).mono ?_
      rintro e w1 ⟨v, rfl, ho, hb⟩
      have HO := Lib.hid ho
      have HB := Lib.hid hb
      clear ho hb
      go_wp2_with fail
      go_loopw [6, 27] (fun x i wr => ∃ k : Nat, i = .int .i64 k ∧ k ≤ ps.length ∧ Hid (wr.ownsRow w.heap.size 3 1 x (cat (ps.take k)).length (nums .i64 (cat (ps.take k)))) ∧ Hid (Below w.heap.size w wr)) (fun _ i _ => ps.length - (intOf i).toNat)
      case atStart => exact ⟨0, rfl, by omega, HO, HB⟩
      case round =>
        obtain ⟨k, rfl, hk, HO2, HB2⟩ := hrel
        by_cases hlt : k < ps.length
        · have hv := H.out.val k _ (List.getElem?_eq_getElem hlt)
          have hr := H.out.rd _ (List.getElem_mem hlt)
          have hs := cat_snoc ps k hlt
          have hle := cat_take_le ps (k + 1)
          rw [hs, List.length_append] at hle
          have hv2 := (HB2.out.cell (World.block_lt_of_cell? w _ hv)).trans hv
          generalize ps[k] = p at hv hr hs hle hv2
          obtain ⟨A, c1, xs⟩ := p
          simp only at hv hr hs hle hv2
          have HS := Lib.hid hs
          have HR := Lib.hid (hr.below HB2.out)
          clear hs hr hv
          go_wp2_with (refine wp_app (w0 := w) rfl (.tmp 31) (.tmp 32) 23 3 (.int .i64 0) 1 8 rfl Tryz.underlying23 infoInt rfl (by decide) (by decide) w.heap.size _ (cat (ps.take k)).length (nums .i64 (cat (ps.take k))) rfl HO2.out A xs.length c1 (nums .i64 xs) rfl HR.out (nums_one _ _) (by omega) HB2.out.size HB2.out ?_)
          intro v2 w2 ho hb _
          have HO3 := Lib.hid ho
          have HB3 := Lib.hid hb
          clear ho hb
          go_wp2
          go_roundw
          case rel => exact ⟨k + 1, by go_num, by omega, Lib.hid (by rw [HS.out, List.length_append, show nums .i64 (cat (ps.take k) ++ xs) = nums .i64 (cat (ps.take k)) ++ nums .i64 xs by simp [nums]]; exact HO3.out), HB3⟩
          case measure => simp [intOf] <;> omega
        · obtain rfl : k = ps.length := by omega
          have ho := HO2.out
          rw [List.take_length] at ho
          have HO3 := Lib.hid ho
          clear ho
          go_wp2
          go_ret
          exact ⟨_, rfl, HO3.out, HB2.out⟩

/-- Of two; of three. -/
theorem Concat2 (A B : Option Addr) (c cb : Nat) (xs ys : List Int) (w : World) (hx : RdI w .i64 A c xs) (hy : RdI w .i64 B cb ys) (hl : (xs.length + ys.length) * 8 ≤ 140737488355328) :
    Calls Tryz.prog 131 #[.slice (some ⟨w.heap.size, 0, none⟩) 2 2] (w.alloc (.cells #[.slice A xs.length c, .slice B ys.length cb] 23)) fun e w' => ∃ v, e = .returned v ∧ w'.ownsRow w.heap.size 3 1 v (xs ++ ys).length (nums .i64 (xs ++ ys)) ∧ Below w.heap.size w w' := by
  have hb := (Below.refl w.heap.size w).alloc (Nat.le_refl _) (.cells #[.slice A xs.length c, .slice B ys.length cb] 23)
  have hp : Parts (w.alloc (.cells #[.slice A xs.length c, .slice B ys.length cb] 23)) w.heap.size [(A, c, xs), (B, cb, ys)] := by
    refine ⟨fun j p hj => ?_, fun p hp => ?_⟩
    · rw [World.cell?_alloc_at _ _ _ _ rfl]
      rcases j with _ | _ | j
      · cases hj; rfl
      · cases hj; rfl
      · simp at hj
    · rcases List.mem_cons.1 hp with rfl | hp
      · exact hx.below hb
      · rcases List.mem_cons.1 hp with rfl | hp
        · exact hy.below hb
        · simp at hp
  have e : cat [(A, c, xs), (B, cb, ys)] = xs ++ ys := by simp [cat]
  have := Concat_any w.heap.size 2 _ _ hp (by rw [e, List.length_append]; exact hl) (by simp)
  rw [e] at this
  refine this.mono ?_
  rintro e w' ⟨v, rfl, ho, hbl⟩
  exact ⟨v, rfl, own_mono ho (by simp), below_two hb hbl⟩
theorem Concat3 (A B C : Option Addr) (c cb cc : Nat) (xs ys zs : List Int) (w : World) (hx : RdI w .i64 A c xs) (hy : RdI w .i64 B cb ys) (hz : RdI w .i64 C cc zs) (hl : (xs.length + ys.length + zs.length) * 8 ≤ 140737488355328) :
    Calls Tryz.prog 131 #[.slice (some ⟨w.heap.size, 0, none⟩) 3 3] (w.alloc (.cells #[.slice A xs.length c, .slice B ys.length cb, .slice C zs.length cc] 23)) fun e w' => ∃ v, e = .returned v ∧ w'.ownsRow w.heap.size 3 1 v (xs ++ ys ++ zs).length (nums .i64 (xs ++ ys ++ zs)) ∧ Below w.heap.size w w' := by
  have hb := (Below.refl w.heap.size w).alloc (Nat.le_refl _) (.cells #[.slice A xs.length c, .slice B ys.length cb, .slice C zs.length cc] 23)
  have hp : Parts (w.alloc (.cells #[.slice A xs.length c, .slice B ys.length cb, .slice C zs.length cc] 23)) w.heap.size [(A, c, xs), (B, cb, ys), (C, cc, zs)] := by
    refine ⟨fun j p hj => ?_, fun p hp => ?_⟩
    · rw [World.cell?_alloc_at _ _ _ _ rfl]
      rcases j with _ | _ | _ | j
      · cases hj; rfl
      · cases hj; rfl
      · cases hj; rfl
      · simp at hj
    · rcases List.mem_cons.1 hp with rfl | hp
      · exact hx.below hb
      · rcases List.mem_cons.1 hp with rfl | hp
        · exact hy.below hb
        · rcases List.mem_cons.1 hp with rfl | hp
          · exact hz.below hb
          · simp at hp
  have e : cat [(A, c, xs), (B, cb, ys), (C, cc, zs)] = xs ++ ys ++ zs := by simp [cat]
  have := Concat_any w.heap.size 3 _ _ hp (by rw [e, List.length_append, List.length_append]; exact hl) (by simp)
  rw [e] at this
  refine this.mono ?_
  rintro e w' ⟨v, rfl, ho, hbl⟩
  exact ⟨v, rfl, own_mono ho (by simp), below_two hb hbl⟩
theorem Concat3_len (A B C : Option Addr) (c cb cc n1 n2 n3 : Nat) (xs ys zs : List Int) (w : World) (h1 : xs.length = n1) (h2 : ys.length = n2) (h3 : zs.length = n3) (hx : RdI w .i64 A c xs) (hy : RdI w .i64 B cb ys) (hz : RdI w .i64 C cc zs) (hl : (n1 + n2 + n3) * 8 ≤ 140737488355328) :
    Calls Tryz.prog 131 #[.slice (some ⟨w.heap.size, 0, none⟩) 3 3] (w.alloc (.cells #[.slice A n1 c, .slice B n2 cb, .slice C n3 cc] 23)) fun e w' => ∃ v, e = .returned v ∧ w'.ownsRow w.heap.size 3 1 v (xs ++ ys ++ zs).length (nums .i64 (xs ++ ys ++ zs)) ∧ Below w.heap.size w w' := by
  subst h1 h2 h3
  exact Concat3 A B C c cb cc xs ys zs w hx hy hz hl
end Go.Proofs.YtappfhjknihboaaGreatDoor.L04


/- Package stack: what each call does. -/
namespace Go.Proofs.YtappfhjknihboaaGreatDoor.L04
open Go.RowKit

theorem ret_bool {a b : Bool} (h : a = b) : Ending.returned (.bool a) = .returned (.bool b) := by rw [h]

/-- The place of the value that has some above it, and what is thrown. -/
def atR (n : Nat) (i : Int) : Int := if 0 ≤ i ∧ i < n then n - 1 - i else 0
def atE (n : Nat) (i : Int) : Int := if 0 ≤ i ∧ i < n then 0 else -4

/-- What is pushed, what is popped. -/
def pushE (n m : Nat) (depth : Int) : Int := if depth < n + m then -3 else 0
def pushR (l v : List Int) (depth : Int) : List Int := if pushE l.length v.length depth = 0 then l ++ v else []
def popE (n : Nat) (many : Int) : Int := if many < 0 ∨ (n : Int) < many then -4 else 0
def popR (l : List Int) (many : Int) : List Int := if popE l.length many = 0 then l.take (l.length - many.toNat) else []
def popT (l : List Int) (many : Int) : List Int := if popE l.length many = 0 then l.drop (l.length - many.toNat) else []

set_option maxHeartbeats 1000000 in
theorem Push_any (A B : Option Addr) (c cb : Nat) (depth : Int) (l v : List Int) (w : World) (hx : RdI w .i64 A c l) (hy : RdI w .i64 B cb v) (hl : (l.length + v.length) * 8 ≤ 140737488355328) :
    Calls Tryz.prog 108 #[.slice A l.length c, .int .i64 depth, .slice B v.length cb] w fun e w' => ∃ x, e = .returned (.tuple #[x, .int .i64 (pushE l.length v.length depth)]) ∧ w'.ownsRow w.heap.size 3 1 x (pushR l v depth).length (nums .i64 (pushR l v depth)) ∧ Below w.heap.size w w' := by
  have HX := Lib.hid hx
  have HY := Lib.hid hy
  clear hx hy
  by_cases h : depth < l.length + v.length
  · have e1 : pushE l.length v.length depth = -3 := by rw [pushE, if_pos h]
    have e2 : pushR l v depth = [] := by rw [pushR, e1]; rfl
    rw [e1, e2]
    clear e1 e2
    go_enter Tryz.func108, Tryz.ntmps108
    go_wp2
    go_ret2
    exact ⟨_, rfl, ⟨rfl, .inl ⟨rfl, rfl⟩⟩, Below.refl _ _⟩
  · have e1 : pushE l.length v.length depth = 0 := by rw [pushE, if_neg h]
    have e2 : pushR l v depth = l ++ v := by rw [pushR, e1, if_pos rfl]
    rw [e1, e2]
    clear e1 e2
    go_enter Tryz.func108, Tryz.ntmps108
    go_wp2_with fail
    refine (Concat2 A B c cb l v w HX.out HY.out hl).mono ?_
    rintro e w1 ⟨x, rfl, ho, hb⟩
    have HO := Lib.hid ho
    have HB := Lib.hid hb
    clear ho hb
    go_wp2
    go_ret2
    exact ⟨_, rfl, HO.out, HB.out⟩

set_option maxHeartbeats 1000000 in
theorem Pop_any (A : Option Addr) (c : Nat) (many : Int) (l : List Int) (w : World) (hx : RdI w .i64 A c l) (hm : many ≤ 9223372036854775807) :
    Calls Tryz.prog 104 #[.slice A l.length c, .int .i64 many] w fun e w' => ∃ A1 c1 A2 c2, e = .returned (.tuple #[.slice A1 (popR l many).length c1, .slice A2 (popT l many).length c2, .int .i64 (popE l.length many)]) ∧ RdI w' .i64 A1 c1 (popR l many) ∧ RdI w' .i64 A2 c2 (popT l many) ∧ ∃ n, w' = w.drewN n := by
  have h2 := hx.le
  have h3 := hx.cap
  unfold maxLen at h3
  have HX := Lib.hid hx
  clear hx
  by_cases h : many < 0 ∨ (l.length : Int) < many
  · have e1 : popE l.length many = -4 := by rw [popE, if_pos h]
    have e2 : popR l many = [] := by rw [popR, e1]; rfl
    have e3 : popT l many = [] := by rw [popT, e1]; rfl
    rw [e1, e2, e3]
    clear e1 e2 e3
    by_cases h0 : many < 0
    all_goals
      go_enter Tryz.func104, Tryz.ntmps104
      go_wp2
      all_goals (go_ret3; exact ⟨none, 0, none, 0, rfl, rd_nil _ _, rd_nil _ _, 0, rfl⟩)
  · have e1 : popE l.length many = 0 := by rw [popE, if_neg h]
    have e2 : popR l many = l.take (l.length - many.toNat) := by rw [popR, e1, if_pos rfl]
    have e3 : popT l many = l.drop (l.length - many.toNat) := by rw [popT, e1, if_pos rfl]
    rw [e1, e2, e3]
    obtain ⟨k, rfl⟩ := Int.eq_ofNat_of_zero_le (show 0 ≤ many by omega)
    rw [Int.toNat_natCast]
    have hk : k ≤ l.length := by omega
    have hc1 := HX.out.cut 0 (l.length - k) (l.length - k) (by omega) (by omega) (by omega)
    have hc2 := HX.out.cut (l.length - k) k k (by omega) (by omega) (by omega)
    rw [List.drop_zero] at hc1
    rw [List.take_of_length_le (by rw [List.length_drop]; omega)] at hc2
    have l1 : (l.take (l.length - k)).length = l.length - k := by simp
    have l2 : (l.drop (l.length - k)).length = k := by simp; omega
    rw [l1, l2]
    have hz : cutA A 0 (l.length - k) = A := by unfold cutA; split <;> simp [Addr.add]
    rw [hz] at hc1
    obtain ⟨m, hm2⟩ : ∃ m, l.length - k = m := ⟨_, rfl⟩
    rw [hm2] at hc1 hc2 ⊢
    have HC1 := Lib.hid hc1
    have HC2 := Lib.hid hc2
    have hlm : l.length = m + k := by omega
    clear hc1 hc2 e1 e2 e3 h l1 l2 hm2 hz
    rw [hlm]
    rw [hlm] at h2
    clear hlm hk
    go_enter Tryz.func104, Tryz.ntmps104
    go_wp2
    go_quiet (fail)
    go_wp2
    all_goals go_ret3
    all_goals
      have hc2 := HC2.out
      by_cases hk0 : k = 0
    all_goals (try (exfalso; omega))
    · subst hk0
      rw [cutA, if_pos rfl] at hc2
      exact ⟨A, m, A, 0, by simp, HC1.out.drewN, hc2.drewN, _, rfl⟩
    · rw [cutA, if_neg hk0] at hc2
      exact ⟨A, m, _, k, by simp, HC1.out.drewN, hc2.drewN, _, rfl⟩

/-- What is rolled. -/
def rollR (l : List Int) (i : Int) : List Int := if atE l.length i = 0 then l.take (atR l.length i).toNat ++ l.drop ((atR l.length i).toNat + 1) ++ (l.drop (atR l.length i).toNat).take 1 else []

end Go.Proofs.YtappfhjknihboaaGreatDoor.L04


/- Package nostosref04: the same as package stack. -/
namespace Go.Proofs.YtappfhjknihboaaGreatDoor.L04
open Go.RowKit

set_option maxHeartbeats 1000000 in
theorem RPush_any (A B : Option Addr) (c cb : Nat) (depth : Int) (l v : List Int) (w : World) (hx : RdI w .i64 A c l) (hy : RdI w .i64 B cb v) (hl : (l.length + v.length) * 8 ≤ 140737488355328) :
    Calls Tryz.prog 138 #[.slice A l.length c, .int .i64 depth, .slice B v.length cb] w fun e w' => ∃ x, e = .returned (.tuple #[x, .int .i64 (pushE l.length v.length depth)]) ∧ w'.ownsRow w.heap.size 3 1 x (pushR l v depth).length (nums .i64 (pushR l v depth)) ∧ Below w.heap.size w w' := by
  have HX := Lib.hid hx
  have HY := Lib.hid hy
  clear hx hy
  by_cases h : depth < l.length + v.length
  · have e1 : pushE l.length v.length depth = -3 := by rw [pushE, if_pos h]
    have e2 : pushR l v depth = [] := by rw [pushR, e1]; rfl
    rw [e1, e2]
    clear e1 e2
    go_enter Tryz.func138, Tryz.ntmps138
    go_wp2
    go_ret2
    exact ⟨_, rfl, ⟨rfl, .inl ⟨rfl, rfl⟩⟩, Below.refl _ _⟩
  · have e1 : pushE l.length v.length depth = 0 := by rw [pushE, if_neg h]
    have e2 : pushR l v depth = l ++ v := by rw [pushR, e1, if_pos rfl]
    rw [e1, e2]
    clear e1 e2
    go_enter Tryz.func138, Tryz.ntmps138
    go_wp2_with (refine wp_app (w0 := w) rfl (.tmp 16) (.tmp 17) 23 3 (.int .i64 0) 1 8 rfl Tryz.underlying23 infoInt rfl (by decide) (by decide) w.heap.size _ 0 [] rfl (own_empty (heap_alloc_new _ _) (Nat.le_refl _)) A l.length c (nums .i64 l) rfl (HX.out.below ((Below.refl _ _).alloc (Nat.le_refl _) _)) (nums_one _ _) (by omega) (by simp) ((Below.refl _ _).alloc (Nat.le_refl _) _) ?_)
    intro v1 w1 ho hb _
    have ho : w1.ownsRow w.heap.size 3 1 v1 l.length (nums .i64 l) := by simpa using ho
    have HO := Lib.hid ho
    have HB := Lib.hid hb
    have HY1 := Lib.hid (HY.out.below hb)
    clear ho hb
    go_wp2_with (refine wp_app (w0 := w) rfl (.tmp 19) (.tmp 20) 23 3 (.int .i64 0) 1 8 rfl Tryz.underlying23 infoInt rfl (by decide) (by decide) w.heap.size _ l.length (nums .i64 l) rfl HO.out B v.length cb (nums .i64 v) rfl HY1.out (nums_one _ _) hl HB.out.size HB.out ?_)
    intro v2 w2 ho hb _
    have HO2 := Lib.hid ho
    have HB2 := Lib.hid hb
    clear ho hb
    go_wp2
    go_ret2
    refine ⟨_, rfl, ?_, HB2.out⟩
    rw [List.length_append, show nums .i64 (l ++ v) = nums .i64 l ++ nums .i64 v by simp [nums]]
    exact HO2.out

set_option maxHeartbeats 1000000 in
theorem RPop_any (A : Option Addr) (c : Nat) (many : Int) (l : List Int) (w : World) (hx : RdI w .i64 A c l) (hm : many ≤ 9223372036854775807) :
    Calls Tryz.prog 80 #[.slice A l.length c, .int .i64 many] w fun e w' => ∃ A1 c1 A2 c2, e = .returned (.tuple #[.slice A1 (popR l many).length c1, .slice A2 (popT l many).length c2, .int .i64 (popE l.length many)]) ∧ RdI w' .i64 A1 c1 (popR l many) ∧ RdI w' .i64 A2 c2 (popT l many) ∧ ∃ n, w' = w.drewN n := by
  have h2 := hx.le
  have h3 := hx.cap
  unfold maxLen at h3
  have HX := Lib.hid hx
  clear hx
  by_cases h : many < 0 ∨ (l.length : Int) < many
  · have e1 : popE l.length many = -4 := by rw [popE, if_pos h]
    have e2 : popR l many = [] := by rw [popR, e1]; rfl
    have e3 : popT l many = [] := by rw [popT, e1]; rfl
    rw [e1, e2, e3]
    clear e1 e2 e3
    by_cases h0 : many < 0
    all_goals
      go_enter Tryz.func80, Tryz.ntmps80
      go_wp2
      all_goals (go_ret3; exact ⟨none, 0, none, 0, rfl, rd_nil _ _, rd_nil _ _, 0, rfl⟩)
  · have e1 : popE l.length many = 0 := by rw [popE, if_neg h]
    have e2 : popR l many = l.take (l.length - many.toNat) := by rw [popR, e1, if_pos rfl]
    have e3 : popT l many = l.drop (l.length - many.toNat) := by rw [popT, e1, if_pos rfl]
    rw [e1, e2, e3]
    obtain ⟨k, rfl⟩ := Int.eq_ofNat_of_zero_le (show 0 ≤ many by omega)
    rw [Int.toNat_natCast]
    have hk : k ≤ l.length := by omega
    have hc1 := HX.out.cut 0 (l.length - k) c (by omega) (by omega) (by omega)
    have hc2 := HX.out.cut (l.length - k) k (c - (l.length - k)) (by omega) (by omega) (by omega)
    rw [List.drop_zero] at hc1
    rw [List.take_of_length_le (by rw [List.length_drop]; omega)] at hc2
    have l1 : (l.take (l.length - k)).length = l.length - k := by simp
    have l2 : (l.drop (l.length - k)).length = k := by simp; omega
    rw [l1, l2]
    have hz : cutA A 0 c = A := by unfold cutA; split <;> simp [Addr.add]
    rw [hz] at hc1
    obtain ⟨m, hm2⟩ : ∃ m, l.length - k = m := ⟨_, rfl⟩
    rw [hm2] at hc1 hc2 ⊢
    have HC1 := Lib.hid hc1
    have HC2 := Lib.hid hc2
    have hlm : l.length = m + k := by omega
    clear hc1 hc2 e1 e2 e3 h l1 l2 hm2 hz
    rw [hlm]
    rw [hlm] at h2
    clear hlm hk
    have b1 : IntKind.i64.wrap (((m + k : Nat) : Int) - k) = m := by rw [IntWalk.i64_in _ (by omega)]; omega
    have b2 : (0 : Int) ≤ m := by omega
    have b3 : (m : Int) ≤ c := by omega
    have b4 : (m : Int) ≤ (m : Int) + k := by omega
    go_enter Tryz.func80, Tryz.ntmps80
    go_wp2
    go_quiet (fail)
    go_wp2
    · go_ret3
      have hc2 := HC2.out
      have hz : c - m = 0 := by omega
      rw [cutA, if_pos hz, hz] at hc2
      have hc1 := HC1.out
      rename_i h
      rw [h] at hc1
      exact ⟨A, m, A, 0, by simp, hc1.drewN, hc2.drewN, _, rfl⟩
    · go_ret3
      have hc2 := HC2.out
      rw [cutA, if_neg (by omega)] at hc2
      exact ⟨A, c, _, c - m, by simp, HC1.out.drewN, hc2.drewN, _, rfl⟩

theorem getD_int (l : List Int) (k : Nat) (h : k < l.length) : l.getD k 0 = l[k]'h := by simp [List.getD_eq_getElem?_getD, List.getElem?_eq_getElem h]

/-- A list's first j, without the one at k. -/
def skipL (l : List Int) (k j : Nat) : List Int := l.take (min j k) ++ (l.take j).drop (k + 1)
theorem skipL_at (l : List Int) (k : Nat) : skipL l k (k + 1) = skipL l k k := by
  unfold skipL
  rw [Nat.min_self, show min (k + 1) k = k by omega, List.drop_eq_nil_of_le (by simp; omega), List.drop_eq_nil_of_le (by simp; omega)]
theorem skipL_step (l : List Int) (k j : Nat) (h : j < l.length) (hk : j ≠ k) : skipL l k (j + 1) = skipL l k j ++ [l[j]'h] := by
  unfold skipL
  rcases Nat.lt_or_ge j k with h1 | h1
  · rw [show min (j + 1) k = j + 1 by omega, show min j k = j by omega, List.drop_eq_nil_of_le (by simp; omega), List.drop_eq_nil_of_le (by simp; omega), List.take_succ_eq_append_getElem h]
    simp
  · rw [show min (j + 1) k = k by omega, show min j k = k by omega, List.append_assoc]
    congr 1
    rw [List.take_succ_eq_append_getElem h, List.drop_append_of_le_length (by simp; omega)]
theorem skipL_end (l : List Int) (k : Nat) (h : k < l.length) : skipL l k l.length = l.take k ++ l.drop (k + 1) := by
  unfold skipL
  rw [show min l.length k = k by omega, List.take_length]
theorem skipL_len (l : List Int) (k j : Nat) : (skipL l k j).length ≤ l.length := by
  simp only [skipL, List.length_append, List.length_take, List.length_drop]
  omega

end Go.Proofs.YtappfhjknihboaaGreatDoor.L04


/- The contracts of package stack and of its reference, in the form that the laws use. -/
namespace Go.Proofs.YtappfhjknihboaaGreatDoor.L04
open Go.RowKit

theorem Push_is (A B : Option Addr) (c cb : Nat) (depth : Int) (l v : List Int) (w : World) (n m : Nat) (r : List Int) (t : Int) (hn : l.length = n) (hm : v.length = m) (hr : pushR l v depth = r) (ht : pushE l.length v.length depth = t) (hx : RdI w .i64 A c l) (hy : RdI w .i64 B cb v) (hl : (n + m + 1) * 8 ≤ 140737488355328) :
    Calls Tryz.prog 108 #[.slice A n c, .int .i64 depth, .slice B m cb] w fun e w' => ∃ A' c', e = .returned (.tuple #[.slice A' r.length c', .int .i64 t]) ∧ RdI w' .i64 A' c' r ∧ Below w.heap.size w w' := by
  subst hn hm hr ht
  refine (Push_any A B c cb depth l v w hx hy (by omega)).mono ?_
  rintro e w' ⟨x, rfl, ho, hb⟩
  obtain ⟨A', c', rfl, hr⟩ := Rd.own ho
  exact ⟨A', c', rfl, hr, hb⟩
theorem Pop_is (A : Option Addr) (c : Nat) (many : Int) (l : List Int) (w : World) (n : Nat) (r1 r2 : List Int) (t : Int) (hn : l.length = n) (h1 : popR l many = r1) (h2 : popT l many = r2) (ht : popE l.length many = t) (hx : RdI w .i64 A c l) (hm : many ≤ 9223372036854775807) :
    Calls Tryz.prog 104 #[.slice A n c, .int .i64 many] w fun e w' => ∃ A1 c1 A2 c2, e = .returned (.tuple #[.slice A1 r1.length c1, .slice A2 r2.length c2, .int .i64 t]) ∧ RdI w' .i64 A1 c1 r1 ∧ RdI w' .i64 A2 c2 r2 ∧ Below w.heap.size w w' := by
  subst hn h1 h2 ht
  refine (Pop_any A c many l w hx hm).mono ?_
  rintro e w' ⟨A1, c1, A2, c2, rfl, h1, h2, k, rfl⟩
  exact ⟨A1, c1, A2, c2, rfl, h1, h2, below_drewN w k⟩
theorem RPush_is (A B : Option Addr) (c cb : Nat) (depth : Int) (l v : List Int) (w : World) (n m : Nat) (r : List Int) (t : Int) (hn : l.length = n) (hm : v.length = m) (hr : pushR l v depth = r) (ht : pushE l.length v.length depth = t) (hx : RdI w .i64 A c l) (hy : RdI w .i64 B cb v) (hl : (n + m + 1) * 8 ≤ 140737488355328) :
    Calls Tryz.prog 138 #[.slice A n c, .int .i64 depth, .slice B m cb] w fun e w' => ∃ A' c', e = .returned (.tuple #[.slice A' r.length c', .int .i64 t]) ∧ RdI w' .i64 A' c' r ∧ Below w.heap.size w w' := by
  subst hn hm hr ht
  refine (RPush_any A B c cb depth l v w hx hy (by omega)).mono ?_
  rintro e w' ⟨x, rfl, ho, hb⟩
  obtain ⟨A', c', rfl, hr⟩ := Rd.own ho
  exact ⟨A', c', rfl, hr, hb⟩
theorem RPop_is (A : Option Addr) (c : Nat) (many : Int) (l : List Int) (w : World) (n : Nat) (r1 r2 : List Int) (t : Int) (hn : l.length = n) (h1 : popR l many = r1) (h2 : popT l many = r2) (ht : popE l.length many = t) (hx : RdI w .i64 A c l) (hm : many ≤ 9223372036854775807) :
    Calls Tryz.prog 80 #[.slice A n c, .int .i64 many] w fun e w' => ∃ A1 c1 A2 c2, e = .returned (.tuple #[.slice A1 r1.length c1, .slice A2 r2.length c2, .int .i64 t]) ∧ RdI w' .i64 A1 c1 r1 ∧ RdI w' .i64 A2 c2 r2 ∧ Below w.heap.size w w' := by
  subst hn h1 h2 ht
  refine (RPop_any A c many l w hx hm).mono ?_
  rintro e w' ⟨A1, c1, A2, c2, rfl, h1, h2, k, rfl⟩
  exact ⟨A1, c1, A2, c2, rfl, h1, h2, below_drewN w k⟩
/-- What is picked. -/
def pickR (l : List Int) (i : Int) : Int := if atE l.length i = 0 then l.getD (atR l.length i).toNat 0 else 0
end Go.Proofs.YtappfhjknihboaaGreatDoor.L04


/- stack.Pop and the reference's: the rest lies where the stack lay. -/
namespace Go.Proofs.YtappfhjknihboaaGreatDoor.L04
open Go.RowKit

/-- Where the rest lies. -/
def PopAt (A A1 A2 : Option Addr) : Prop := (A1 = A ∨ A1 = none) ∧ ∀ ad, A2 = some ad → ∃ a0, A = some a0 ∧ ad.block = a0.block
theorem popAt_none (A : Option Addr) : PopAt A none none := ⟨.inr rfl, fun ad e => by cases e⟩
theorem popAt_self (A : Option Addr) : PopAt A A A := ⟨.inl rfl, fun ad e => ⟨ad, e, rfl⟩⟩
theorem popAt_map (A : Option Addr) (k : Nat) : PopAt A A (A.map (·.add k)) := ⟨.inl rfl, fun ad e => by
  obtain ⟨a0, h, rfl⟩ := Option.map_eq_some_iff.1 e
  exact ⟨a0, h, by unfold Addr.add; split <;> rfl⟩⟩
set_option maxHeartbeats 1000000 in
theorem Pop1_any (A : Option Addr) (c : Nat) (many : Int) (l : List Int) (w : World) (hx : RdI w .i64 A c l) (hm : many ≤ 9223372036854775807) :
    Calls Tryz.prog 104 #[.slice A l.length c, .int .i64 many] w fun e w' => ∃ A1 c1 A2 c2, PopAt A A1 A2 ∧ e = .returned (.tuple #[.slice A1 (popR l many).length c1, .slice A2 (popT l many).length c2, .int .i64 (popE l.length many)]) ∧ RdI w' .i64 A1 c1 (popR l many) ∧ RdI w' .i64 A2 c2 (popT l many) ∧ ∃ n, w' = w.drewN n := by
  have h2 := hx.le
  have h3 := hx.cap
  unfold maxLen at h3
  have HX := Lib.hid hx
  clear hx
  by_cases h : many < 0 ∨ (l.length : Int) < many
  · have e1 : popE l.length many = -4 := by rw [popE, if_pos h]
    have e2 : popR l many = [] := by rw [popR, e1]; rfl
    have e3 : popT l many = [] := by rw [popT, e1]; rfl
    rw [e1, e2, e3]
    clear e1 e2 e3
    by_cases h0 : many < 0
    all_goals
      go_enter Tryz.func104, Tryz.ntmps104
      go_wp2
      all_goals (go_ret3; first | exact ⟨none, 0, none, popAt_none _, 0, rfl, rd_nil _ _, rd_nil _ _, 0, rfl⟩ | exact ⟨none, 0, none, 0, popAt_none _, rfl, rd_nil _ _, rd_nil _ _, 0, rfl⟩)
  · have e1 : popE l.length many = 0 := by rw [popE, if_neg h]
    have e2 : popR l many = l.take (l.length - many.toNat) := by rw [popR, e1, if_pos rfl]
    have e3 : popT l many = l.drop (l.length - many.toNat) := by rw [popT, e1, if_pos rfl]
    rw [e1, e2, e3]
    obtain ⟨k, rfl⟩ := Int.eq_ofNat_of_zero_le (show 0 ≤ many by omega)
    rw [Int.toNat_natCast]
    have hk : k ≤ l.length := by omega
    have hc1 := HX.out.cut 0 (l.length - k) (l.length - k) (by omega) (by omega) (by omega)
    have hc2 := HX.out.cut (l.length - k) k k (by omega) (by omega) (by omega)
    rw [List.drop_zero] at hc1
    rw [List.take_of_length_le (by rw [List.length_drop]; omega)] at hc2
    have l1 : (l.take (l.length - k)).length = l.length - k := by simp
    have l2 : (l.drop (l.length - k)).length = k := by simp; omega
    rw [l1, l2]
    have hz : cutA A 0 (l.length - k) = A := by unfold cutA; split <;> simp [Addr.add]
    rw [hz] at hc1
    obtain ⟨m, hm2⟩ : ∃ m, l.length - k = m := ⟨_, rfl⟩
    rw [hm2] at hc1 hc2 ⊢
    have HC1 := Lib.hid hc1
    have HC2 := Lib.hid hc2
    have hlm : l.length = m + k := by omega
    clear hc1 hc2 e1 e2 e3 h l1 l2 hm2 hz
    rw [hlm]
    rw [hlm] at h2
    clear hlm hk
    go_enter Tryz.func104, Tryz.ntmps104
    go_wp2
    go_quiet (fail)
    go_wp2
    all_goals go_ret3
    all_goals
      have hc2 := HC2.out
      by_cases hk0 : k = 0
    all_goals (try (exfalso; omega))
    · subst hk0
      rw [cutA, if_pos rfl] at hc2
      first | exact ⟨A, m, A, popAt_self _, 0, by simp, HC1.out.drewN, hc2.drewN, _, rfl⟩ | exact ⟨A, m, A, 0, popAt_self _, by simp, HC1.out.drewN, hc2.drewN, _, rfl⟩
    · rw [cutA, if_neg hk0] at hc2
      first | exact ⟨A, m, _, popAt_map _ _, k, by simp, HC1.out.drewN, hc2.drewN, _, rfl⟩ | exact ⟨A, m, _, k, popAt_map _ _, by simp, HC1.out.drewN, hc2.drewN, _, rfl⟩

set_option maxHeartbeats 1000000 in
theorem RPop1_any (A : Option Addr) (c : Nat) (many : Int) (l : List Int) (w : World) (hx : RdI w .i64 A c l) (hm : many ≤ 9223372036854775807) :
    Calls Tryz.prog 80 #[.slice A l.length c, .int .i64 many] w fun e w' => ∃ A1 c1 A2 c2, PopAt A A1 A2 ∧ e = .returned (.tuple #[.slice A1 (popR l many).length c1, .slice A2 (popT l many).length c2, .int .i64 (popE l.length many)]) ∧ RdI w' .i64 A1 c1 (popR l many) ∧ RdI w' .i64 A2 c2 (popT l many) ∧ ∃ n, w' = w.drewN n := by
  have h2 := hx.le
  have h3 := hx.cap
  unfold maxLen at h3
  have HX := Lib.hid hx
  clear hx
  by_cases h : many < 0 ∨ (l.length : Int) < many
  · have e1 : popE l.length many = -4 := by rw [popE, if_pos h]
    have e2 : popR l many = [] := by rw [popR, e1]; rfl
    have e3 : popT l many = [] := by rw [popT, e1]; rfl
    rw [e1, e2, e3]
    clear e1 e2 e3
    by_cases h0 : many < 0
    all_goals
      go_enter Tryz.func80, Tryz.ntmps80
      go_wp2
      all_goals (go_ret3; first | exact ⟨none, 0, none, popAt_none _, 0, rfl, rd_nil _ _, rd_nil _ _, 0, rfl⟩ | exact ⟨none, 0, none, 0, popAt_none _, rfl, rd_nil _ _, rd_nil _ _, 0, rfl⟩)
  · have e1 : popE l.length many = 0 := by rw [popE, if_neg h]
    have e2 : popR l many = l.take (l.length - many.toNat) := by rw [popR, e1, if_pos rfl]
    have e3 : popT l many = l.drop (l.length - many.toNat) := by rw [popT, e1, if_pos rfl]
    rw [e1, e2, e3]
    obtain ⟨k, rfl⟩ := Int.eq_ofNat_of_zero_le (show 0 ≤ many by omega)
    rw [Int.toNat_natCast]
    have hk : k ≤ l.length := by omega
    have hc1 := HX.out.cut 0 (l.length - k) c (by omega) (by omega) (by omega)
    have hc2 := HX.out.cut (l.length - k) k (c - (l.length - k)) (by omega) (by omega) (by omega)
    rw [List.drop_zero] at hc1
    rw [List.take_of_length_le (by rw [List.length_drop]; omega)] at hc2
    have l1 : (l.take (l.length - k)).length = l.length - k := by simp
    have l2 : (l.drop (l.length - k)).length = k := by simp; omega
    rw [l1, l2]
    have hz : cutA A 0 c = A := by unfold cutA; split <;> simp [Addr.add]
    rw [hz] at hc1
    obtain ⟨m, hm2⟩ : ∃ m, l.length - k = m := ⟨_, rfl⟩
    rw [hm2] at hc1 hc2 ⊢
    have HC1 := Lib.hid hc1
    have HC2 := Lib.hid hc2
    have hlm : l.length = m + k := by omega
    clear hc1 hc2 e1 e2 e3 h l1 l2 hm2 hz
    rw [hlm]
    rw [hlm] at h2
    clear hlm hk
    have b1 : IntKind.i64.wrap (((m + k : Nat) : Int) - k) = m := by rw [IntWalk.i64_in _ (by omega)]; omega
    have b2 : (0 : Int) ≤ m := by omega
    have b3 : (m : Int) ≤ c := by omega
    have b4 : (m : Int) ≤ (m : Int) + k := by omega
    go_enter Tryz.func80, Tryz.ntmps80
    go_wp2
    go_quiet (fail)
    go_wp2
    · go_ret3
      have hc2 := HC2.out
      have hz : c - m = 0 := by omega
      rw [cutA, if_pos hz, hz] at hc2
      have hc1 := HC1.out
      rename_i h
      rw [h] at hc1
      first | exact ⟨A, m, A, popAt_self _, 0, by simp, hc1.drewN, hc2.drewN, _, rfl⟩ | exact ⟨A, m, A, 0, popAt_self _, by simp, hc1.drewN, hc2.drewN, _, rfl⟩
    · go_ret3
      have hc2 := HC2.out
      rw [cutA, if_neg (by omega)] at hc2
      first | exact ⟨A, c, _, popAt_map _ _, c - m, by simp, HC1.out.drewN, hc2.drewN, _, rfl⟩ | exact ⟨A, c, _, c - m, popAt_map _ _, by simp, HC1.out.drewN, hc2.drewN, _, rfl⟩

end Go.Proofs.YtappfhjknihboaaGreatDoor.L04
