
/- append(nil, make([]T, n)...): no program in sight. -/
import Derived.Test.YticebanhccgglaaDoorBase
namespace Go.Proofs.YticebanhccgglaaDoor
open Go.RowKit

theorem zeroCells_one (z : Value) (m : Nat) : (Builtin.zeroCells #[z] m).toList = List.replicate m z := by
  simp [Builtin.zeroCells, List.map_const', Nat.mod_one]

theorem run_make_nil {P : Program} (w : World) (base : Nat) (t ti ty e : TypeId) (i : TypeInfo) (z : Value) (size bytes : Nat) (ht : P.underlying t = some (.slice e)) {k : IntKind} (hti : P.underlying ti = some (.int k)) (hi : P.info? e = some i) (hz : i.zero = some z)
    (hsize : i.size = size) (hby : i.bytes = bytes) (hzs : z.cells.size = size) (hsz : 0 < size) (hb0 : 0 < bytes) (kx : IntKind) (m : Nat) (hm : 0 < m) (hbytes : m * bytes ≤ 140737488355328) (hbase : base ≤ w.heap.size) :
    ∃ cap w', (Builtin.append_ #[t, ti] ty #[.slice none 0 0, .int kx m]).run P w = .ok (.slice (some ⟨w.heap.size, 0, none⟩) m cap) w' ∧ w'.ownsRow base e size (.slice (some ⟨w.heap.size, 0, none⟩) m cap) m (Builtin.zeroCells z.cells m).toList ∧ Below w.heap.size w w' := by
  subst hsize
  subst hby
  have hle : m ≤ 140737488355328 := Nat.le_trans (Nat.le_mul_of_pos_right _ hb0) hbytes
  have h63 : m ≤ maxLen := by simp only [maxLen]; omega
  have hw : IntKind.i64.wrap (m : Int) = m := by rw [IntKind.wrap_i64]; omega
  have hneg : ¬ ((m : Int) < 0) := by omega
  have hbig : ¬ (281474976710656 < (m : Int) * (i.bytes : Int)) := by
    rw [← Int.natCast_mul]
    omega
  have hsn : i.size ≠ 0 := by omega
  obtain ⟨news, hnews⟩ : ∃ news, news = (Builtin.zeroCells z.cells m).toList := ⟨_, rfl⟩
  rw [← hnews]
  have hl : news.length = m * i.size := by rw [hnews, Array.length_toList, size_zeroCells, hzs]
  have hna : Builtin.zeroCells z.cells m = news.toArray := by rw [hnews]
  have hge := grownCap_ge w m 0 e
  have hcm : grownCap w m 0 e ≤ maxLen := grownCap_le_maxLen w m 0 e h63
  refine ⟨grownCap w m 0 e, w.drew.alloc (.cells (news.toArray ++ Builtin.zeroCells z.cells (grownCap w m 0 e - m)) e), ?_, ⟨hl, .inr ⟨w.heap.size, _, _, rfl, hbase, heap_alloc_new w.drew _, hge, hcm, ?_, ?_⟩⟩, ?_⟩
  · have hn : ¬ (m ≤ 0) := by omega
    have h63' : ¬ (9223372036854775807 < (m : Int)) := by omega
    have hfit := growslice_fits (need := m) (old := 0) (bytes := i.bytes) (by omega) hbytes
    have h48' : ¬ (281474976710656 < Builtin.nextslicecap m 0 * i.bytes) := by omega
    have hmz : ¬ (m * i.size = 0) := Nat.mul_ne_zero (by omega) hsn
    have hm0 : ¬ m = 0 := by omega
    simp [Builtin.append_, Builtin.firstCells, run_underlying ht, run_underlying hti, sizeOf, typeInfo, zeroValue, hi, hz, asInt, asIntOf, hw, hneg, hbig, h63', h48', Question.forced, newRow, grownCap, hmz, hna, hm0]
    try rfl
  · simp only [Array.size_append, List.size_toArray, size_zeroCells, hzs, hl, ← Nat.add_mul]
    congr 1
    omega
  · simp only [Array.toList_append]
    rw [← hl]
    exact List.take_left
  · exact ((Below.refl _ _).drew).alloc (Nat.le_refl _) _

/-- The operation, in a walk. -/
theorem wp_make_nil {P : Program} {ops : Array Oper} {rest : List Oper} {o : Oper} {a : Act} {Q : Exit → Act → World → Prop} {w0 w : World} (hgd : o.guard = none) (s x : Operand) (t ti e : TypeId) (z : Value) (size bytes : Nat)
    (ho : o.op = .call { callee := .builtin .append, args := #[s, x], argTypes := #[t, ti] }) (ht : P.underlying t = some (.slice e)) {k : IntKind} (hti : P.underlying ti = some (.int k))
    (hinfo : (P.info? e).map (fun i => (i.zero, i.size, i.bytes)) = some (some z, size, bytes)) (hzs : z.cells.size = size) (hsz : 0 < size) (hb0 : 0 < bytes)
    (B : Nat) (kx : IntKind) (M : Int) (m : Nat) (hM : M = (m : Int)) (hs : a.eval s = .slice none 0 0) (hx : a.eval x = .int kx M) (hm : 0 < m) (hbytes : m * bytes ≤ 140737488355328) (hB : B ≤ w.heap.size) (hbel : Below B w0 w)
    (h : ∀ g cap w', w'.ownsRow B e size (.slice (some ⟨g, 0, none⟩) m cap) m (Builtin.zeroCells z.cells m).toList → B ≤ g → m ≤ cap → cap ≤ maxLen → Below B w0 w' → wpList P ops Q rest (a.put o.dst (.slice (some ⟨g, 0, none⟩) m cap)) w') : wpList P ops Q (o :: rest) a w := by
  obtain ⟨i0, hi, hzz⟩ := Option.map_eq_some_iff.1 hinfo
  simp only [Prod.mk.injEq] at hzz
  obtain ⟨hz0, hz1, hz2⟩ := hzz
  subst hM
  obtain ⟨cap, w', hrun, hown, hbl⟩ := run_make_nil (P := P) w B t ti o.type e i0 z size bytes ht hti hi hz0 hz1 hz2 hzs hsz hb0 kx m hm hbytes hB
  refine wpList_plain hgd fun K hK => ?_
  unfold Oper.wp
  simp [execOp, ho, resolve, invoke, builtin, hs, hx, hrun, Result.andThen]
  refine hK _ _ (h w.heap.size cap w' hown hB ?_ ?_ (hbel.trans (hbl.mono hB)))
  · obtain ⟨g, c, e1, _, _, h1, h2⟩ := own_form hown hm
    cases e1
    exact h1
  · obtain ⟨g, c, e1, _, _, h1, h2⟩ := own_form hown hm
    cases e1
    exact h2

/-- A row that is cut to nothing. -/
theorem own_cut0 {w : World} {B g n cap size : Nat} {e : TypeId} {xs : List Value} (h : w.ownsRow B e size (.slice (some ⟨g, 0, none⟩) n cap) n xs) : w.ownsRow B e size (.slice (some ⟨g, 0, none⟩) 0 cap) 0 [] := by
  rcases h.2 with ⟨h', _⟩ | ⟨g', cap', cur, h', hb, hh, h1, h2, h3, h4⟩
  · simp at h'
  · simp only [Value.slice.injEq, Option.some.injEq, Addr.mk.injEq, and_true, true_and] at h'
    obtain ⟨rfl, rfl⟩ := h'
    exact ⟨by simp, .inr ⟨g, cap, cur, rfl, hb, hh, Nat.zero_le _, h2, h3, by simp⟩⟩
end Go.Proofs.YticebanhccgglaaDoor
