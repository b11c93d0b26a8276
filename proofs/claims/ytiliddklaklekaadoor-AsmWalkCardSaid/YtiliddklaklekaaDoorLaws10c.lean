
/- The walk of AsmWalk. -/
import Derived.Test.YtiliddklaklekaaDoorLaws10b
import Derived.Test.YtiliddklaklekaaDoorPlain10b
import Derived.Maps.AppendAt
import Derived.Maps.RangeWalk
namespace Go.Proofs.YtiliddklaklekaaDoor
open Go.RowKit

def startsOf (wi : Int) (l : List Int) (i : Nat) : List Int := (List.range i).map fun j => 8 * (posOf wi l j : Int)
theorem startsOf_len (wi : Int) (l : List Int) (i : Nat) : (startsOf wi l i).length = i := by simp [startsOf]
theorem startsOf_next (wi : Int) (l : List Int) (i : Nat) : startsOf wi l (i + 1) = startsOf wi l i ++ [8 * (posOf wi l i : Int)] := by
  simp [startsOf, List.range_succ]
theorem startsOf_at {wi : Int} {l : List Int} {i j : Nat} (h : j < i) : (startsOf wi l i).getD j 0 = 8 * (posOf wi l j : Int) := by
  simp [startsOf, List.getD_eq_getElem?_getD, h]

theorem wp_app1_at {P : Program} {ops : Array Oper} {rest : List Oper} {o : Oper} {a : Act} {Q : Exit → Act → World → Prop} {w0 w : World} (hgd : o.guard = none) (s x : Operand) (t e : TypeId) (z : Value) (bytes : Nat)
    (ho : o.op = .call { callee := .builtin .append, args := #[s, x], argTypes := #[t, t] }) (ht : P.underlying t = some (.slice e))
    (hinfo : (P.info? e).map (fun i => (i.zero, i.size, i.bytes)) = some (some z, 1, bytes)) (hzs : z.cells.size = 1) (hb0 : 0 < bytes)
    (B : Nat) (v : Value) (n : Nat) (xs : List Value) (y : Value) (hs : a.eval s = v) (hown : w.ownsRow B e 1 v n xs)
    (hx : a.eval x = .slice (some ⟨w.heap.size, 0, none⟩) 1 1) (h1 : y.oneCell' = true)
    (hbytes : (n + 1) * bytes ≤ 140737488355328) (hB : B ≤ w.heap.size) (hbel : Below B w0 w)
    (h : ∀ v' w', w'.ownsRow B e 1 v' (n + 1) (xs ++ [y]) → Below B w0 w' → (w.alloc (.cells #[y] e)).grownBy w' v.ownBlock → (v'.ownBlock = v.ownBlock ∨ v'.ownBlock = some (w.heap.size + 1)) → wpList P ops Q rest (a.put o.dst v') w') : wpList P ops Q (o :: rest) a (w.alloc (.cells #[y] e)) := by
  obtain ⟨i0, hi, hzz⟩ := Option.map_eq_some_iff.1 hinfo
  simp only [Prod.mk.injEq] at hzz
  obtain ⟨hz0, hz1, hz2⟩ := hzz
  have hnm : n + 1 ≤ 140737488355328 := Nat.le_trans (Nat.le_mul_of_pos_right _ hb0) hbytes
  have hrd := rd_alloc w [y] #[y] e (0, 0) 1 1 1 rfl rfl (by decide) (by decide)
  refine Go.wpList_append_own_at (w := w.alloc (.cells #[y] e)) hgd s x t ho B e i0 z 1 bytes ht hi hz0 hz1 hz2 hzs (by decide) v n xs hs (hown.alloc _) ⟨w.heap.size, 0, none⟩ 1 1 [y] hx hrd.len (fun j u hj => ?_) (fun u hu => by simp at hu; subst hu; exact h1) (by simp only [maxLen]; omega) hbytes (by simp; omega) ?_
  · obtain ⟨ad', e1, hc⟩ := hrd.cell j u hj
    cases e1
    exact hc
  · intro v' w' ho' hg _ hat
    refine h v' w' ho' ((hbel.alloc hB _).grown hg (by simp; omega) fun k hk => (by
      rcases hown.2 with ⟨rfl, _⟩ | ⟨g, cap, cur, rfl, hb, _⟩
      · simp [Value.ownBlock] at hk
      · have : g = k := by simpa [Value.ownBlock] using hk
        omega)) hg ?_
    rcases hat with hat | hat
    · exact .inl hat
    · exact .inr (by rw [hat]; simp)
theorem RdP.grownv {w w' : World} {q : Ad} {s : Ps} {S : Nat → Prop} {row : Option Nat} (h : RdP w q s) (hl : Lies q s S) (hg : w.grownBy w' row) (hk : ∀ k, row = some k → ¬ S k) : RdP w' q s := by
  cases row with
  | none => exact h.grown h.lies (hg.but (some w.heap.size)) (Nat.lt_irrefl _)
  | some k => exact h.grown hl hg (hk k rfl)
theorem Lies.and {q : Ad} {s : Ps} {S T : Nat → Prop} (h : Lies q s S) (k : Lies q s T) : Lies q s (fun b => S b ∧ T b) :=
  ⟨fun a b c => ⟨h.mem a b c, k.mem a b c⟩, fun a b c => ⟨h.data a b c, k.data a b c⟩, fun a b c => ⟨h.ret a b c, k.ret a b c⟩, fun a b c => ⟨h.ctl a b c, k.ctl a b c⟩, fun a b c => ⟨h.words a b c, k.words a b c⟩, fun a b c => ⟨h.spots a b c, k.spots a b c⟩, fun a b c => ⟨h.out a b c, k.out a b c⟩⟩
theorem infoInt10 : (Tryd.prog.info? 3).map (fun i => (i.zero, i.size, i.bytes)) = some (some (.int .i64 0), 1, 8) := by kernel_rfl

set_option maxRecDepth 100000 in
set_option maxHeartbeats 4000000 in
theorem AsmWalk_walk (A : Option Addr) (c : Nat) (l : List Int) (wi : Int) (w : World) (hx : RdI w .u8 A c l) (hb : isB l) (hw : -9223372036854775808 ≤ wi ∧ wi ≤ 9223372036854775807) (ht : Tab w) :
    Calls Tryd.prog 7 #[.slice A l.length c, .int .i64 wi] w fun e w' => e = .returned (.bool true) ∧ Below w.heap.size w w' := by
  have HX := Lib.hid hx
  have HB := Lib.hid hb
  have HT := Lib.hid ht
  have HW := Lib.hid hw
  clear hx hb ht hw
  go_enter Tryd.func7, Tryd.ntmps7
  go_wp2_with fail
  refine (awake_any w HT.out).mono ?_
  rintro e w1 ⟨rfl, hb1⟩
  have HB1 := Lib.hid hb1
  clear hb1
  by_cases hl : 20 < l.length
  · go_wp2
    go_ret
    exact ⟨rfl, HB1.out⟩
  · obtain ⟨M, hmk, hM, hMB, hMR⟩ := make_400
    obtain ⟨n, hn⟩ : ∃ n, l.length = n := ⟨_, rfl⟩
    rw [hn] at hl ⊢
    have HN := Lib.hid hn
    clear hn
    obtain ⟨q0, hq0⟩ : ∃ q, q = memA (some ⟨w1.heap.size, 0, none⟩) 400 := ⟨_, rfl⟩
    obtain ⟨s0, hs0⟩ : ∃ s : Ps, s = ⟨M, [], [], [], [], [], [], 0, 0, 0, 0, 0, 0, false, false⟩ := ⟨_, rfl⟩
    have hst : stL q0 s0 = [.slice (some ⟨w1.heap.size, 0, none⟩) 400 400, .slice none 0 0, .slice none 0 0, .slice none 0 0, .slice none 0 0, .slice none 0 0, .slice none 0 0, .int .i64 0, .int .i64 0, .int .i64 0, .int .i64 0, .int .i64 0, .int .i64 0, .bool false, .bool false] := by
      subst hq0 hs0
      unfold stL
      rw [show (Ps.mem ⟨M, [], [], [], [], [], [], 0, 0, 0, 0, 0, 0, false, false⟩) = M from rfl, hM]
      rfl
    obtain ⟨W, hW⟩ : ∃ W, (w1.alloc (.cells (nums .u8 M).toArray 5 (0, 0))).alloc (.cells #[.slice (some ⟨w1.heap.size, 0, none⟩) 400 400, .slice none 0 0, .slice none 0 0, .slice none 0 0, .slice none 0 0, .slice none 0 0, .slice none 0 0, .int .i64 0, .int .i64 0, .int .i64 0, .int .i64 0, .int .i64 0, .int .i64 0, .bool false, .bool false] 28) = W := ⟨_, rfl⟩
    have HWW := Lib.hid hW
    have HB2 : Hid (Below w.heap.size w W) := Lib.hid (by rw [← hW]; exact below_two HB1.out (below_two (below_lit _ _) (below_lit _ _)))
    have HG : Hid (Bx W (w1.heap.size + 1) 28 (stL q0 s0)) := Lib.hid (by rw [← hW, hst]; exact Bx.new _ _ _ _ _ (by simp) rfl)
    have HP : Hid (RdP W q0 s0) := Lib.hid (by
      have h1 := (hMR w1).below (below_lit _ (.cells #[.slice (some ⟨w1.heap.size, 0, none⟩) 400 400, .slice none 0 0, .slice none 0 0, .slice none 0 0, .slice none 0 0, .slice none 0 0, .slice none 0 0, .int .i64 0, .int .i64 0, .int .i64 0, .int .i64 0, .int .i64 0, .int .i64 0, .bool false, .bool false] 28))
      rw [hW] at h1
      have h2 := rdP_mem h1 hMB 0 0
      rw [hq0, hs0]
      exact h2)
    have HL : Hid (Lies q0 s0 (fun b => b ≠ w1.heap.size + 1 ∧ (Value.slice none 0 0).ownBlock ≠ some b)) := Lib.hid (by
      rw [hq0, hs0]
      refine ⟨fun _ ad h => ?_, fun h => absurd h (Nat.lt_irrefl 0), fun h => absurd h (Nat.lt_irrefl 0), fun h => absurd h (Nat.lt_irrefl 0), fun h => absurd h (Nat.lt_irrefl 0), fun h => absurd h (Nat.lt_irrefl 0), fun h => absurd h (Nat.lt_irrefl 0)⟩
      cases h
      exact ⟨Nat.ne_of_lt (Nat.lt_succ_self _), fun h => by cases h⟩)
    have HK : Hid (Wk wi l 0 s0) := Lib.hid (by rw [hs0]; exact Wk.start hM)
    have hWs : w1.heap.size + 1 < W.heap.size := HG.out.lt
    have hWw : w.heap.size ≤ w1.heap.size := HB1.out.size
    clear hM hMB hMR hq0 hs0 hst hW
    go_wp2_with fail
    rw [HWW.out]
    obtain ⟨G, hG⟩ : ∃ G, w1.heap.size + 1 = G := ⟨_, rfl⟩
    rw [hG] at HG HL hWs ⊢
    have hGw : w.heap.size ≤ G := by omega
    have HO : Hid (W.ownsRow W.heap.size 3 1 (.slice none 0 0) 0 (nums .i64 (startsOf wi l 0))) := Lib.hid ⟨rfl, .inl ⟨rfl, rfl⟩⟩
    clear hG hWw hmk
    go_loopw [7, 8] (fun v y wr => ∃ (j : Nat) (q : Ad) (s : Ps), y = .int .i64 j ∧ j ≤ n ∧ Hid (Wk wi l j s) ∧ Hid (Bx wr G 28 (stL q s)) ∧ Hid (RdP wr q s) ∧ Hid (Lies q s (fun b => b ≠ G ∧ v.ownBlock ≠ some b)) ∧ Hid (wr.ownsRow W.heap.size 3 1 v j (nums .i64 (startsOf wi l j))) ∧ Hid (Below w.heap.size w wr) ∧ Hid (W.heap.size ≤ wr.heap.size)) (fun _ y _ => n - (intOf y).toNat)
    case atStart => exact ⟨0, q0, s0, rfl, by omega, HK, HG, HP, HL, HO, HB2, Lib.hid (Nat.le_refl _)⟩
    case round =>
      obtain ⟨j, q, s, rfl, hj, HK, HG, HP, HL, HO, HB2, HSZ⟩ := hrel
      by_cases hlt : j < n
      · obtain ⟨ad, rfl, hcx⟩ := RdI.at_ (HX.out.below HB2.out) (show j < l.length by rw [HN.out]; exact hlt)
        have hxb := isB_getD HB.out j
        have hem := HK.out.emit (by rw [HN.out]; exact hlt) (by rw [HN.out]; omega) hxb HW.out
        obtain ⟨x, hxk⟩ : ∃ x, l.getD j 0 = x := ⟨_, rfl⟩
        rw [hxk] at hcx hxb hem
        obtain ⟨hx0, hx1⟩ := hxb
        obtain ⟨r3, hr3⟩ : ∃ r, x.tmod 3 = r := ⟨_, rfl⟩
        obtain ⟨r100, hr100⟩ : ∃ r, x.tmod 100 = r := ⟨_, rfl⟩
        obtain ⟨d3, hd3⟩ : ∃ r, x.tdiv 3 = r := ⟨_, rfl⟩
        obtain ⟨r6, hr6⟩ : ∃ r, d3.tmod 6 = r := ⟨_, rfl⟩
        have f3 : r3 = x % 3 := by rw [← hr3, Int.tmod_eq_emod_of_nonneg hx0]
        have f100 : r100 = x % 100 := by rw [← hr100, Int.tmod_eq_emod_of_nonneg hx0]
        have g3 : d3 = x / 3 := by rw [← hd3, Int.tdiv_eq_ediv_of_nonneg hx0]
        have g6 : r6 = x / 3 % 6 := by rw [← hr6, g3, Int.tmod_eq_emod_of_nonneg (by omega)]
        have b3 : 0 ≤ r3 ∧ r3 < 3 := by omega
        have b100 : 0 ≤ r100 ∧ r100 < 100 := by omega
        have b6 : 0 ≤ r6 ∧ r6 < 6 := by omega
        have bd : 0 ≤ d3 ∧ d3 < 256 := by omega
        have HF := Lib.hid (And.intro f3 (And.intro f100 (And.intro g3 g6)))
        have HXK := Lib.hid hxk
        have HEM := Lib.hid hem
        have c8 : wr.cell? ⟨G, 8, none⟩ = some (.int .i64 s.here) := HG.out.cell 8
        have hsz := HSZ.out
        clear hxk hem f3 f100 g3 g6
        have HBW := HSZ.out
        have hjb : (j + 1) * 8 ≤ 140737488355328 := by omega
        go_wp2_with (refine wp_app1_at (w0 := wr) rfl (.tmp 39) (.tmp 42) 23 3 _ 8 rfl Tryd.underlying23 infoInt10 rfl (by decide) W.heap.size _ j (nums .i64 (startsOf wi l j)) (.int .i64 s.here) rfl HO.out rfl rfl hjb hsz (Below.refl _ _) ?_)
        intro v3 w3 ho hb hg hat
        have HO3 : Hid (w3.ownsRow W.heap.size 3 1 v3 (j + 1) (nums .i64 (startsOf wi l (j + 1)))) := Lib.hid (by
          rw [startsOf_next, ← HK.out.here]
          simpa [nums] using ho)
        have HB3 : Hid (Below w.heap.size w w3) := Lib.hid (HB2.out.trans (hb.mono (by omega)))
        have HG3 : Hid (Bx w3 G 28 (stL q s)) := Lib.hid ((hb.block _ hWs).trans HG.out)
        have HP3 : Hid (RdP w3 q s) := Lib.hid ((HP.out.below (below_lit wr (.cells #[.int .i64 s.here] 3))).grownv HL.out hg (fun k hk h => h.2 hk))
        have HL3 : Hid (Lies q s (fun b => b ≠ G ∧ v3.ownBlock ≠ some b)) := Lib.hid ((HL.out.and HP.out.lies).mono (fun b h => by
          refine ⟨h.1.1, ?_⟩
          rcases hat with hat | hat
          · rw [hat]
            exact h.1.2
          · rw [hat]
            intro e
            injection e with e
            have := h.2
            omega))
        have hv3 : ∀ k, v3.ownBlock = some k → k < w3.heap.size := fun k hk => (HO3.out.lt k hk).2
        have HV3 := Lib.hid hv3
        have HSZ3 : Hid (W.heap.size ≤ w3.heap.size) := Lib.hid (Nat.le_trans hsz hb.size)
        obtain ⟨ad', hade, hcx⟩ := RdI.at_ (HX.out.below (below_two HB3.out (below_lit w3 (.cells #[.int .i64 (13 + r100)] 3)))) (show j < l.length by rw [HN.out]; exact hlt)
        cases hade
        rw [HXK.out] at hcx
        have HKK := HK
        obtain ⟨s5, hs5⟩ : ∃ s5, emitS s (codeOf wi x) = s5 := ⟨_, rfl⟩
        rw [hs5] at HEM
        have HS5 := Lib.hid hs5
        have HK5 := Lib.hid HEM.out.2
        have hspl : s.spots.length ≤ 40 := by
          rw [HK.out.spl]
          have := pos_le wi l j (by rw [HN.out]; exact hj)
          omega
        have HSPL := Lib.hid hspl
        clear ho hb hg hat hv3 c8 HO HG HB2 HSZ hs5 hspl HBW HP HL
        by_cases h3 : r3 = 0
        · subst h3
          have hco : codeOf wi x = [2 + r6, wi] := by rw [codeOf, if_pos HF.out.1.symm, HF.out.2.2.2]
          rw [hco] at HS5 HEM
          have HBE := Lib.hid (below_two (below_lit w3 (.cells #[.int .i64 (13 + r100)] 3)) (below_lit _ (.cells #[.int .i64 (2 + r6), .int .i64 wi] 3)))
          clear hco
          go_wp2_with (refine wp_loadS rfl 28 _ rfl G rfl 28 (stL q s) _ (HG3.out.below HBE.out) Tryd.underlying28 rfl 15 infoSt rfl ?_)
          refine (Emit_any q s (some ⟨w3.heap.size + 1, 0, none⟩) 2 2 [2 + r6, wi] s5 0 _ rfl HS5.out HEM.out.1 (HP3.out.below HBE.out) ?_ (by rw [HK.out.len]; decide) (by have := HSPL.out; omega)).mono ?_
          · have h := rd_alloc (w3.alloc (.cells #[.int .i64 (13 + r100)] 3)) [.int .i64 (2 + r6), .int .i64 wi] #[.int .i64 (2 + r6), .int .i64 wi] 3 (0, 0) 2 2 1 rfl rfl (by decide) (by decide)
            have e : (w3.alloc (.cells #[.int .i64 (13 + r100)] 3)).heap.size = w3.heap.size + 1 := by simp
            rw [e] at h
            exact h
          rintro e w5 ⟨q5, rfl, hr5, hb5⟩
          have HB5 := Lib.hid (HBE.out.trans (hb5.mono HBE.out.size))
          have HW5 := Lib.hid (below_two HB3.out HB5.out)
          have HO5 := Lib.hid (own_below HO3.out HB5.out)
          have HG5 := Lib.hid (HG3.out.below HB5.out)
          have HP5 := Lib.hid hr5.rd
          have HL5 : Hid (Lies q5 s5 (fun b => b ≠ G ∧ v3.ownBlock ≠ some b)) := Lib.hid ((hr5.lies _ HL3.out).mono (fun b h => by
            rcases h with h | h
            · exact h
            · have h1 := HBE.out.size
              have h2 := HSZ3.out
              refine ⟨by omega, fun e => ?_⟩
              have := HV3.out b e
              omega))
          have HSZ5 : Hid (W.heap.size ≤ w5.heap.size) := Lib.hid (Nat.le_trans HSZ3.out HB5.out.size)
          clear hr5 hb5 hcx HBE
          rw [stV_eq q5 s5]
          have HBA := Lib.hid (below_lit w5 (.cells #[.slice q5.m s5.mem.length q5.mc, .slice q5.d s5.data.length q5.dc, .slice q5.r s5.ret.length q5.rc, .slice q5.c s5.ctl.length q5.cc, .slice q5.w s5.words.length q5.wc, .slice q5.s s5.spots.length q5.sc, .slice q5.o s5.out.length q5.oc, .int .i64 s5.ip, .int .i64 s5.here, .int .i64 s5.pos, .int .i64 s5.tok, .int .i64 s5.inp, .int .i64 s5.err, .bool s5.comp, .bool s5.halt] 28))
          have HGA := Lib.hid (HG5.out.below HBA.out)
          go_wp2_with (refine wp_storeS rfl 28 _ _ rfl G (stL q5 s5) rfl rfl 28 _ HGA.out 15 infoSt rfl rfl rfl ?_)
          intro w6 hg6 hw6
          have HG6 := Lib.hid hg6
          have HP6 := Lib.hid ((HP5.out.below HBA.out).grown HL5.out hw6 (fun h => h.1 rfl))
          have HO6 := Lib.hid (own_keep (own_below HO5.out HBA.out) hw6 hWs)
          have HB6 := Lib.hid (below_grown (below_two HW5.out HBA.out) (below_two HW5.out HBA.out).size hw6 hGw)
          have HSZ6 : Hid (W.heap.size ≤ w6.heap.size) := Lib.hid (Nat.le_trans HSZ5.out (Nat.le_trans HBA.out.size hw6.size))
          clear hg6 hw6
          go_wp2
          go_roundw
          case rel => exact ⟨j + 1, q5, s5, by go_num, by omega, HK5, HG6, HP6, HL5, HO6, HB6, HSZ6⟩
          case measure => simp [intOf] <;> omega
        · have hco : codeOf wi x = [13 + r100] := by rw [codeOf, if_neg (by rw [← HF.out.1]; exact h3), HF.out.2.1]
          rw [hco] at HS5 HEM
          have HBE := Lib.hid (below_lit w3 (.cells #[.int .i64 (13 + r100)] 3))
          clear hco
          go_wp2_with (refine wp_loadS rfl 28 _ rfl G rfl 28 (stL q s) _ (HG3.out.below HBE.out) Tryd.underlying28 rfl 15 infoSt rfl ?_)
          refine (Emit_any q s (some ⟨w3.heap.size, 0, none⟩) 1 1 [13 + r100] s5 0 _ rfl HS5.out HEM.out.1 (HP3.out.below HBE.out) ?_ (by rw [HK.out.len]; decide) (by have := HSPL.out; omega)).mono ?_
          · exact rd_alloc w3 [.int .i64 (13 + r100)] #[.int .i64 (13 + r100)] 3 (0, 0) 1 1 1 rfl rfl (by decide) (by decide)
          rintro e w5 ⟨q5, rfl, hr5, hb5⟩
          have HB5 := Lib.hid (HBE.out.trans (hb5.mono HBE.out.size))
          have HW5 := Lib.hid (below_two HB3.out HB5.out)
          have HO5 := Lib.hid (own_below HO3.out HB5.out)
          have HG5 := Lib.hid (HG3.out.below HB5.out)
          have HP5 := Lib.hid hr5.rd
          have HL5 : Hid (Lies q5 s5 (fun b => b ≠ G ∧ v3.ownBlock ≠ some b)) := Lib.hid ((hr5.lies _ HL3.out).mono (fun b h => by
            rcases h with h | h
            · exact h
            · have h1 := HBE.out.size
              have h2 := HSZ3.out
              refine ⟨by omega, fun e => ?_⟩
              have := HV3.out b e
              omega))
          have HSZ5 : Hid (W.heap.size ≤ w5.heap.size) := Lib.hid (Nat.le_trans HSZ3.out HB5.out.size)
          clear hr5 hb5 hcx HBE
          rw [stV_eq q5 s5]
          have HBA := Lib.hid (below_lit w5 (.cells #[.slice q5.m s5.mem.length q5.mc, .slice q5.d s5.data.length q5.dc, .slice q5.r s5.ret.length q5.rc, .slice q5.c s5.ctl.length q5.cc, .slice q5.w s5.words.length q5.wc, .slice q5.s s5.spots.length q5.sc, .slice q5.o s5.out.length q5.oc, .int .i64 s5.ip, .int .i64 s5.here, .int .i64 s5.pos, .int .i64 s5.tok, .int .i64 s5.inp, .int .i64 s5.err, .bool s5.comp, .bool s5.halt] 28))
          have HGA := Lib.hid (HG5.out.below HBA.out)
          go_wp2_with (refine wp_storeS rfl 28 _ _ rfl G (stL q5 s5) rfl rfl 28 _ HGA.out 15 infoSt rfl rfl rfl ?_)
          intro w6 hg6 hw6
          have HG6 := Lib.hid hg6
          have HP6 := Lib.hid ((HP5.out.below HBA.out).grown HL5.out hw6 (fun h => h.1 rfl))
          have HO6 := Lib.hid (own_keep (own_below HO5.out HBA.out) hw6 hWs)
          have HB6 := Lib.hid (below_grown (below_two HW5.out HBA.out) (below_two HW5.out HBA.out).size hw6 hGw)
          have HSZ6 : Hid (W.heap.size ≤ w6.heap.size) := Lib.hid (Nat.le_trans HSZ5.out (Nat.le_trans HBA.out.size hw6.size))
          clear hg6 hw6
          go_wp2
          go_roundw
          case rel => exact ⟨j + 1, q5, s5, by go_num, by omega, HK5, HG6, HP6, HL5, HO6, HB6, HSZ6⟩
          case measure => simp [intOf] <;> omega
      · have hjn : j = n := by omega
        subst hjn
        obtain ⟨A7, c7, rfl, hr7⟩ := Rd.own HO.out
        have HR7 : Hid (RdI wr .i64 A7 c7 (startsOf wi l j)) := Lib.hid (by
          show Rd wr A7 (startsOf wi l j).length c7 1 _
          rw [startsOf_len]
          exact hr7)
        have HK0 : Hid (Wk wi l l.length s) := Lib.hid (by rw [HN.out]; exact HK.out)
        have HWR := Lib.hid (Below.refl wr.heap.size wr)
        have hp0 : (0 : Int) = 8 * (posOf wi l 0 : Int) := by simp [posOf, flat]
        have HP0 := Lib.hid hp0
        clear hr7 HL HO hp0
        go_wp2_with fail
        go_loopw [13, 14] (fun p y wi2 => ∃ k : Nat, y = .int .i64 k ∧ p = .int .i64 (8 * (posOf wi l k : Int)) ∧ k ≤ j ∧ Hid (Below wr.heap.size wr wi2)) (fun _ y _ => j - (intOf y).toNat)
        case atStart => exact ⟨0, rfl, by rw [← HP0.out], by omega, HWR⟩
        case round =>
          obtain ⟨k, rfl, rfl, hkj, HBI⟩ := hrel
          by_cases hlt2 : k < j
          · have hkl : k < l.length := by rw [HN.out]; exact hlt2
            have hxb := isB_getD HB.out k
            obtain ⟨op, hop⟩ := HK0.out.fetch hkl (by rw [HN.out]; omega) hxb
            have hpn := pos_next (wi := wi) hkl
            have hcl := (codeOf_len wi (l.getD k 0)).1
            have HBB := Lib.hid (below_two HB2.out HBI.out)
            obtain ⟨ad7, had7, hc7⟩ := RdI.at_ (HR7.out.below HBI.out) (show k < (startsOf wi l j).length by rw [startsOf_len]; exact hlt2)
            rw [startsOf_at hlt2] at hc7
            have hs7 := startsOf_len wi l j
            have c0 : wr.cell? ⟨G, 0, none⟩ = some (.slice q.m s.mem.length q.mc) := (HG.out.below HBI.out).cell 0
            obtain ⟨x, hxk⟩ : ∃ x, l.getD k 0 = x := ⟨_, rfl⟩
            rw [hxk] at hxb hop hpn hcl
            obtain ⟨P0, hP0⟩ : ∃ P, posOf wi l k = P := ⟨_, rfl⟩
            obtain ⟨P1, hP1⟩ : ∃ P, posOf wi l (k + 1) = P := ⟨_, rfl⟩
            rw [hP0, hP1] at hpn hop
            rw [hP0] at hc7 ⊢
            have h01 : P0 < P1 := by omega
            have hpb : P1 ≤ 40 := by
              have := pos_le wi l (k + 1) (by omega)
              omega
            obtain ⟨hx0, hx1⟩ := hxb
            obtain ⟨r3, hr3⟩ : ∃ r, x.tmod 3 = r := ⟨_, rfl⟩
            have f3 : r3 = x % 3 := by rw [← hr3, Int.tmod_eq_emod_of_nonneg hx0]
            have b3 : 0 ≤ r3 ∧ r3 < 3 := by omega
            have HPP := Lib.hid (And.intro hP0 hP1)
            have HXK := Lib.hid hxk
            have HC7 := Lib.hid hc7
            obtain rfl := had7
            clear hpn hcl hs7 hxk hP0 hP1 hc7
            by_cases h3 : r3 = 0
            · rw [if_pos (by rw [← f3]; exact h3)] at hop
              have HOP := Lib.hid hop
              clear hop f3
              go_wp2_with fail
              refine (Fetch_any q.m q.mc s.mem.length s.mem (8 * (P0 : Int)) _ _ rfl HOP.out (HP.out.below HBI.out).mem HP.out.memB (by rw [HK.out.len]; decide) (HT.out.below HBB.out)).mono ?_
              rintro e w7 ⟨rfl, hb7⟩
              have HBI7 := Lib.hid (below_two HBI.out hb7)
              have HBB7 := Lib.hid (below_two HBB.out hb7)
              obtain ⟨ad, hade, hcx⟩ := RdI.at_ (HX.out.below HBB7.out) (show k < l.length by rw [HN.out]; exact hlt2)
              obtain rfl := hade
              rw [HXK.out] at hcx
              have hc7 : w7.cell? (ad7.add k) = some (.int .i64 (8 * (P0 : Int))) := (hb7.cell (World.block_lt_of_cell? _ _ HC7.out)).trans HC7.out
              have ef : fetV (op, wi, 8 * (P1 : Int), 0) = .tuple #[.int .i64 op, .int .i64 wi, .int .i64 (8 * (P1 : Int)), .int .i64 0] := rfl
              rw [ef]
              clear ef hb7 c0
              go_wp2
              go_roundw
              case rel => exact ⟨k + 1, by go_num, by rw [HPP.out.2], by omega, HBI7⟩
              case measure => simp [intOf] <;> omega
            · rw [if_neg (by rw [← f3]; exact h3)] at hop
              have HOP := Lib.hid hop
              clear hop f3
              go_wp2_with fail
              refine (Fetch_any q.m q.mc s.mem.length s.mem (8 * (P0 : Int)) _ _ rfl HOP.out (HP.out.below HBI.out).mem HP.out.memB (by rw [HK.out.len]; decide) (HT.out.below HBB.out)).mono ?_
              rintro e w7 ⟨rfl, hb7⟩
              have HBI7 := Lib.hid (below_two HBI.out hb7)
              have HBB7 := Lib.hid (below_two HBB.out hb7)
              obtain ⟨ad, hade, hcx⟩ := RdI.at_ (HX.out.below HBB7.out) (show k < l.length by rw [HN.out]; exact hlt2)
              obtain rfl := hade
              rw [HXK.out] at hcx
              have hc7 : w7.cell? (ad7.add k) = some (.int .i64 (8 * (P0 : Int))) := (hb7.cell (World.block_lt_of_cell? _ _ HC7.out)).trans HC7.out
              have ef : fetV (op, 0, 8 * (P1 : Int), 0) = .tuple #[.int .i64 op, .int .i64 0, .int .i64 (8 * (P1 : Int)), .int .i64 0] := rfl
              rw [ef]
              clear ef hb7 c0
              go_wp2
              go_roundw
              case rel => exact ⟨k + 1, by go_num, by rw [HPP.out.2], by omega, HBI7⟩
              case measure => simp [intOf] <;> omega
          · have hkj2 : k = j := by omega
            subst hkj2
            have c8 : wr.cell? ⟨G, 8, none⟩ = some (.int .i64 (8 * (posOf wi l k : Int))) := by
              rw [(HG.out.below HBI.out).cell 8, ← HK.out.here]
              rfl
            have HBB := Lib.hid (below_two HB2.out HBI.out)
            go_wp2
            go_ret
            exact ⟨rfl, HBB.out⟩
end Go.Proofs.YtiliddklaklekaaDoor
