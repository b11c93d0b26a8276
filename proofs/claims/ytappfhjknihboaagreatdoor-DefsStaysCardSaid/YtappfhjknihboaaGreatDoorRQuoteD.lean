
/- The reference's quote. -/
import Derived.Test.YtappfhjknihboaaGreatDoorMP
import Derived.Test.YtappfhjknihboaaGreatDoorQuoteL
import Derived.Deep.DeepCutAuto
namespace Go.Proofs.YtappfhjknihboaaGreatDoor
open Go.RowKit

/-- A state in a block of the call's own, worked on; B: where what is new begins. -/
structure Bd (B : Nat) (w0 w : World) (g : Nat) (q0 : Ad) (s0 : Ps) (q : Ad) (s : Ps) : Prop where
  bx : Bx w g 28 (stL q s)
  rd : RdP w q s
  lies : ∀ S : Nat → Prop, Lies q0 s0 S → Lies q s (fun b => S b ∨ B ≤ b ∧ b ≠ g)
  bl : Below w0.heap.size w0 w
  rs : Bx w (w0.heap.size + 2) 28 (stL nilA zeroP)
  old : RdP w0 q0 s0
  gB : w0.heap.size + 2 < B ∧ B ≤ g
theorem Bd.below {B : Nat} {w0 w w' : World} {g : Nat} {q0 q : Ad} {s0 s : Ps} (h : Bd B w0 w g q0 s0 q s) (hb : Below w.heap.size w w') : Bd B w0 w' g q0 s0 q s :=
  ⟨h.bx.below hb, h.rd.below hb, h.lies, below_two h.bl hb, h.rs.below hb, h.old, h.gB⟩
theorem Bd.ne {B : Nat} {w0 w : World} {g : Nat} {q0 q : Ad} {s0 s : Ps} (h : Bd B w0 w g q0 s0 q s) : Lies q s (fun b => b ≠ g) :=
  (h.lies _ h.old.lies).mono (fun b hb => by have := h.gB; omega)
/-- Other registers are laid. -/
theorem Bd.turn {B : Nat} {w0 w w' : World} {g : Nat} {q0 q : Ad} {s0 s s' : Ps} (h : Bd B w0 w g q0 s0 q s) (hg : w.grownBy w' (some g)) (hbx : Bx w' g 28 (stL q s')) (hr : ∀ v, RdP v q s → RdP v q s') (hl : ∀ S, Lies q s S → Lies q s' S) : Bd B w0 w' g q0 s0 q s' :=
  ⟨hbx, hr _ (h.rd.grown h.ne hg (fun h => h rfl)), fun S hS => hl _ (h.lies S hS), below_grown h.bl h.bl.size hg (by have := h.gB; omega), h.rs.grown hg (by have := h.gB; omega), h.old, h.gB⟩
theorem Bd.mem {B : Nat} {w0 w w' : World} {g : Nat} {q0 q : Ad} {s0 s : Ps} (h : Bd B w0 w g q0 s0 q s) (hg : w.grownBy w' (some g)) {A : Option Addr} {c : Nat} {m : List Int} (hbx : Bx w' g 28 (stL { q with m := A, mc := c } { s with mem := m })) (hr : RdI w' .u8 A c m) (hb : isB m) (ha : 0 < m.length → ∀ ad, A = some ad → B ≤ ad.block ∧ ad.block ≠ g) :
    Bd B w0 w' g q0 s0 { q with m := A, mc := c } { s with mem := m } :=
  ⟨hbx, (h.rd.grown h.ne hg (fun h => h rfl)).withMem hr hb, fun S hS => by have h2 := h.lies S hS; exact ⟨fun h0 ad e => .inr (ha h0 ad e), h2.data, h2.ret, h2.ctl, h2.words, h2.spots, h2.out⟩, below_grown h.bl h.bl.size hg (by have := h.gB; omega), h.rs.grown hg (by have := h.gB; omega), h.old, h.gB⟩
theorem up_ge {n : Int} (h0 : 0 ≤ n) (h1 : n ≤ 1000) : n ≤ upR n := by
  unfold upR wrap64
  omega
theorem emit_two {s : Ps} {a b : Int} (h : emitE s [a, b] = 0) : (emitS s [a, b]).here = s.here + 16 ∧ 0 ≤ s.here ∧ s.here + 16 ≤ s.mem.length ∧ (emitS s [a, b]).mem.length = s.mem.length := by
  have hm := emit_mem [a, b] s h
  unfold emitE at h
  by_cases h1 : commaE s = 0
  · rw [if_pos h1] at h
    have hl : (layS s a).mem.length = s.mem.length := layS_mem h1
    have hh : (layS s a).here = s.here + 8 := layS_here h1
    unfold emitE at h
    by_cases h2 : commaE (layS s a) = 0
    · have hh2 : (emitS s [a, b]).here = s.here + 16 := by
        unfold emitS
        rw [if_pos h1]
        unfold emitS
        rw [if_pos h2]
        unfold emitS
        rw [layS_here h2, hh]
        omega
      refine ⟨hh2, ?_, ?_, hm⟩
      · unfold commaE at h1
        split at h1
        · omega
        · unfold cellE at h1
          split at h1
          · omega
          · omega
      · unfold commaE at h2
        rw [hl, hh] at h2
        split at h2
        · omega
        · omega
    · rw [if_neg h2] at h
      exact absurd h h2
  · rw [if_neg h1] at h
    exact absurd h h1
theorem byte_ok {l : Nat} {i : Int} (h0 : 0 ≤ i) (h1 : i < l) : byteE l i = 0 := by
  unfold byteE
  rw [if_neg (by omega)]
theorem wrap_in {i : Int} (h0 : -9223372036854775808 ≤ i) (h1 : i ≤ 9223372036854775807) : wrap64 i = i := by unfold wrap64; omega
theorem setB_len {l : List Int} {i v : Int} (h0 : 0 ≤ i) (h1 : i < l.length) : (setB l i v).length = l.length := by
  unfold setB
  rw [if_pos (byte_ok h0 h1), length_splice _ _ _ (by simp; omega)]
theorem rsetb_is (A : Option Addr) (c n : Nat) (i v : Int) (l m : List Int) (w : World) (hn : l.length = n) (hm : setB l i v = m) (hmn : m.length = n) (hx : RdI w .u8 A c l) (hl : n ≤ 140737488355328) :
    Calls Tryz.prog 118 #[.slice A n c, .int .i64 i, .int .i64 v] w fun e w' => ∃ A' c' f, e = .returned (.tuple #[.slice A' n c', .int .i64 f]) ∧ w'.ownsRow w.heap.size 5 1 (.slice A' n c') n (nums .u8 m) ∧ Below w.heap.size w w' := by
  subst hn hm
  refine (RefSetByte_any A c i v l w hx hl).mono ?_
  rintro e w' ⟨x, rfl, ho, hb⟩
  obtain ⟨A', c', rfl, _⟩ := Rd.own ho
  rw [hmn] at ho ⊢
  exact ⟨A', c', _, rfl, ho, hb⟩
set_option maxRecDepth 100000 in
set_option maxHeartbeats 4000000 in
theorem RQuote_no (q : Ad) (s : Ps) (x : Sx) (s' : Ps) (e' : Int) (w : World) (hr : fin (quoteD x (s, 0)) = (s', e')) (hc : s.comp = false) (hp : RdP w q s) (hsz : x.src.size ≤ 200)
    (_hm : s.mem.length ≤ 1000000) (_hsp : s.spots.length ≤ 100000) (_ho : s.out.length ≤ 100000) :
    Calls Tryz.prog 87 #[stV q s, suV x] w fun e w' => ∃ q', e = .returned (.tuple #[stV q' s', .int .i64 e']) ∧ Res w.heap.size q s w' q' s' ∧ Below w.heap.size w w' := by
  have HTS := Lib.hid (quoT_size x s hsz)
  have hsz2 : x.src.size ≤ maxLen := by unfold maxLen; omega
  obtain ⟨t, ht⟩ : ∃ t, quoT x s = t := ⟨_, rfl⟩
  obtain ⟨s1, hs1⟩ : ∃ a, quoP x s = a := ⟨_, rfl⟩
  have hF : s1.mem = s.mem ∧ s1.spots = s.spots ∧ s1.out = s.out ∧ s1.comp = s.comp := by rw [← hs1]; exact ⟨rfl, rfl, rfl, rfl⟩
  have HF := Lib.hid hF
  unfold quoteD at hr
  simp only at hr
  rw [ht, hs1] at hr
  rw [ht] at HTS
  have HT := Lib.hid ht
  have HR := Lib.hid hr
  have HS1 := Lib.hid hs1
  have HP1 : Hid (RdP w q s1) := Lib.hid (by rw [← hs1]; exact hp.withPos _)
  have HLI : Hid (∀ S, Lies q s S → Lies q s1 S) := Lib.hid (fun S h => by rw [← hs1]; exact h.withPos _)
  have HC := Lib.hid hc
  clear hr ht hs1 hF hc
  have hB0 := below_two (below_two (below_lit w (.cells (stL q s).toArray 28)) (below_lit _ (.cells (suL x).toArray 30))) (below_lit _ (.cells (stL nilA zeroP).toArray 28))
  have hS : Bx (((w.alloc (.cells (stL q s).toArray 28)).alloc (.cells (suL x).toArray 30)).alloc (.cells (stL nilA zeroP).toArray 28)) w.heap.size 28 (stL q s) := ((Bx.new w _ _ _ _ rfl rfl).alloc _).alloc _
  have hX : Bx (((w.alloc (.cells (stL q s).toArray 28)).alloc (.cells (suL x).toArray 30)).alloc (.cells (stL nilA zeroP).toArray 28)) (w.heap.size + 1) 30 (suL x) := (Bx.new _ _ _ _ _ (by simp) rfl).alloc _
  have hR : Bx (((w.alloc (.cells (stL q s).toArray 28)).alloc (.cells (suL x).toArray 30)).alloc (.cells (stL nilA zeroP).toArray 28)) (w.heap.size + 2) 28 (stL nilA zeroP) := Bx.new _ _ _ _ _ (by simp) rfl
  obtain ⟨W, hW⟩ : ∃ W, (((w.alloc (.cells #[.slice q.m s.mem.length q.mc, .slice q.d s.data.length q.dc, .slice q.r s.ret.length q.rc, .slice q.c s.ctl.length q.cc, .slice q.w s.words.length q.wc, .slice q.s s.spots.length q.sc, .slice q.o s.out.length q.oc, .int .i64 s.ip, .int .i64 s.here, .int .i64 s.pos, .int .i64 s.tok, .int .i64 s.inp, .int .i64 s.err, .bool s.comp, .bool s.halt] 28)).alloc (.cells #[.string x.src, .slice x.iA x.iN x.iC, .int .i64 x.size, .int .i64 x.depth, .int .i64 x.room] 30)).alloc (.cells #[.slice none 0 0, .slice none 0 0, .slice none 0 0, .slice none 0 0, .slice none 0 0, .slice none 0 0, .slice none 0 0, .int .i64 0, .int .i64 0, .int .i64 0, .int .i64 0, .int .i64 0, .int .i64 0, .bool false, .bool false] 28)) = W := ⟨_, rfl⟩
  have HB0 : Hid (Below w.heap.size w W) := Lib.hid (by rw [← hW]; exact hB0)
  have HA0 : Hid (Bx W w.heap.size 28 (stL q s)) := Lib.hid (by rw [← hW]; exact hS)
  have HX0 : Hid (Bx W (w.heap.size + 1) 30 (suL x)) := Lib.hid (by rw [← hW]; exact hX)
  have HR0 : Hid (Bx W (w.heap.size + 2) 28 (stL nilA zeroP)) := Lib.hid (by rw [← hW]; exact hR)
  have HP : Hid (RdP w q s) := Lib.hid hp
  have HWW := Lib.hid hW
  clear hp hB0 hS hX hR hW
  rw [stV_eq q s, suV_eq x]
  go_enter Tryz.func87, Tryz.ntmps87
  go_upto_region 1 with fail
  rw [HWW.out]
  have hW2 : w.heap.size + 2 < W.heap.size := HR0.out.lt
  have x0 : W.cell? ⟨w.heap.size + 1, 0, none⟩ = some (.string x.src) := HX0.out.cell 0
  have c9 : W.cell? ⟨w.heap.size, 9, none⟩ = some (.int .i64 s.pos) := HA0.out.cell 9
  go_wp2_with fail
  refine (L06.RUntil_any x.src s.pos 34 W hsz2 (by decide) (by decide)).mono ?_
  rintro r w1 ⟨rfl, rfl⟩
  rw [show L06.untilS x.src s.pos 34 = t from HT.out]
  go_wp2_with (refine wp_storeF rfl 3 _ _ rfl w.heap.size 9 _ rfl rfl rfl 28 _ HA0.out 15 rfl (by decide) info1i ?_)
  intro w2 hg2 hw2
  have HA2 : Hid (Bx w2 w.heap.size 28 (stL q s1)) := Lib.hid (by rw [← HS1.out]; exact hg2)
  have HX2 := Lib.hid (HX0.out.grown hw2 (by omega))
  have HR2 := Lib.hid (HR0.out.grown hw2 (by omega))
  have HB2 := Lib.hid (below_grown HB0.out HB0.out.size hw2 (Nat.le_refl _))
  have hW22 : W.heap.size ≤ w2.heap.size := hw2.size
  have hcomp := HF.out.2.2.2
  clear hg2 hw2 x0 c9
  have hr := HR.out
  rw [if_neg (by rw [HC.out]; decide)] at hr
  rw [HC.out] at hcomp
  have c13 : w2.cell? ⟨w.heap.size, 13, none⟩ = some (.bool false) := by have h := HA2.out.cell 13; rw [← hcomp]; exact h
  obtain ⟨s2, hs2⟩ : ∃ a, sayS s1 x t = a := ⟨_, rfl⟩
  obtain ⟨f, hf⟩ : ∃ a, sayE s1 x t = a := ⟨_, rfl⟩
  have hz : sayE s1 x t ≠ 0 → sayS s1 x t = zeroP := by
    unfold sayE sayS
    split
    · intro _; rfl
    · intro h; exact absurd rfl h
  have hfin : (s2, f) = (s', e') := by
    rw [← hr]
    unfold sayD fin
    simp only
    rw [hs2, hf]
    have h2 : thr 0 f = f := rfl
    rw [h2]
    by_cases h0 : f = 0
    · rw [if_pos h0, if_pos rfl, h0]
    · rw [if_neg h0, if_neg h0, ← hs2, hz (by rw [hf]; exact h0)]
  injection hfin with ha hb
  subst ha hb
  have HS2 := Lib.hid hs2
  have HFF := Lib.hid hf
  clear hr HR hcomp hs2 hf hz
  go_wp2_with (first
    | (refine wp_loadS rfl 28 _ rfl w.heap.size rfl 28 _ _ HA2.out Tryz.underlying28 rfl 15 infoSt rfl ?_)
    | (refine wp_loadS rfl 30 _ rfl (w.heap.size + 1) rfl 30 _ _ HX2.out Tryz.underlying30 rfl 5 infoSx rfl ?_))
  refine (RSay_any q s1 x t s2 f w2 HS2.out HFF.out (HP1.out.below HB2.out) (by rw [HF.out.2.2.1]; exact _ho) (by have := HTS.out; omega)).mono ?_
  rintro r w3 ⟨q3, rfl, hres, hb⟩
  have HRES := Lib.hid hres
  have HB3 := Lib.hid (below_two HB2.out hb)
  have HR3 := Lib.hid (HR2.out.below hb)
  clear hres hb c13
  go_wp2_with (refine wp_storeS rfl 28 _ _ rfl (w.heap.size + 2) (stL q3 s2) rfl rfl 28 _ HR3.out 15 infoSt rfl rfl (stL_one _ _) ?_)
  intro w4 hg4 hw4
  have HG := Lib.hid hg4
  have HB4 := Lib.hid (below_grown HB3.out HB3.out.size hw4 (by omega))
  have hl3 : Lies q3 s2 (fun b => b < w.heap.size ∨ w2.heap.size ≤ b) := HRES.out.lies _ (HLI.out _ HP.out.lies)
  have HP4 := Lib.hid (HRES.out.rd.grown hl3 hw4 (by omega))
  have HLL : Hid (∀ S : Nat → Prop, Lies q s S → Lies q3 s2 (fun b => S b ∨ w.heap.size ≤ b)) := Lib.hid (fun S hS => (HRES.out.lies _ (HLI.out S hS)).mono (fun b hb => hb.imp id (fun h => by omega)))
  clear hg4 hw4 hl3
  go_wp2
  refine bodyPost_ret (results_S Tryz.results87 _ _ (w.heap.size + 2) 28 _ _ rfl HG.out Tryz.underlying28 rfl 15 infoSt rfl _ rfl) rfl ?_
  exact ⟨q3, rfl, ⟨HP4.out, HLL.out⟩, HB4.out⟩
set_option maxRecDepth 100000 in
set_option maxHeartbeats 4000000 in
theorem RQuote_yes (q : Ad) (s : Ps) (x : Sx) (s' : Ps) (e' : Int) (w : World) (hr : fin (quoteD x (s, 0)) = (s', e')) (hc : s.comp = true) (hp : RdP w q s) (hsz : x.src.size ≤ 200)
    (_hm : s.mem.length ≤ 1000000) (_hsp : s.spots.length ≤ 100000) (_ho : s.out.length ≤ 100000) :
    Calls Tryz.prog 87 #[stV q s, suV x] w fun e w' => ∃ q', e = .returned (.tuple #[stV q' s', .int .i64 e']) ∧ Res w.heap.size q s w' q' s' ∧ Below w.heap.size w w' := by
  have HTS := Lib.hid (quoT_size x s hsz)
  have hsz2 : x.src.size ≤ maxLen := by unfold maxLen; omega
  obtain ⟨t, ht⟩ : ∃ t, quoT x s = t := ⟨_, rfl⟩
  obtain ⟨s1, hs1⟩ : ∃ a, quoP x s = a := ⟨_, rfl⟩
  have hF : s1.mem = s.mem ∧ s1.spots = s.spots ∧ s1.out = s.out ∧ s1.comp = s.comp := by rw [← hs1]; exact ⟨rfl, rfl, rfl, rfl⟩
  have HF := Lib.hid hF
  unfold quoteD at hr
  simp only at hr
  rw [ht, hs1] at hr
  rw [ht] at HTS
  have HT := Lib.hid ht
  have HR := Lib.hid hr
  have HS1 := Lib.hid hs1
  have HP1 : Hid (RdP w q s1) := Lib.hid (by rw [← hs1]; exact hp.withPos _)
  have HLI : Hid (∀ S, Lies q s S → Lies q s1 S) := Lib.hid (fun S h => by rw [← hs1]; exact h.withPos _)
  have HC := Lib.hid hc
  clear hr ht hs1 hF hc
  have hB0 := below_two (below_two (below_lit w (.cells (stL q s).toArray 28)) (below_lit _ (.cells (suL x).toArray 30))) (below_lit _ (.cells (stL nilA zeroP).toArray 28))
  have hS : Bx (((w.alloc (.cells (stL q s).toArray 28)).alloc (.cells (suL x).toArray 30)).alloc (.cells (stL nilA zeroP).toArray 28)) w.heap.size 28 (stL q s) := ((Bx.new w _ _ _ _ rfl rfl).alloc _).alloc _
  have hX : Bx (((w.alloc (.cells (stL q s).toArray 28)).alloc (.cells (suL x).toArray 30)).alloc (.cells (stL nilA zeroP).toArray 28)) (w.heap.size + 1) 30 (suL x) := (Bx.new _ _ _ _ _ (by simp) rfl).alloc _
  have hR : Bx (((w.alloc (.cells (stL q s).toArray 28)).alloc (.cells (suL x).toArray 30)).alloc (.cells (stL nilA zeroP).toArray 28)) (w.heap.size + 2) 28 (stL nilA zeroP) := Bx.new _ _ _ _ _ (by simp) rfl
  obtain ⟨W, hW⟩ : ∃ W, (((w.alloc (.cells #[.slice q.m s.mem.length q.mc, .slice q.d s.data.length q.dc, .slice q.r s.ret.length q.rc, .slice q.c s.ctl.length q.cc, .slice q.w s.words.length q.wc, .slice q.s s.spots.length q.sc, .slice q.o s.out.length q.oc, .int .i64 s.ip, .int .i64 s.here, .int .i64 s.pos, .int .i64 s.tok, .int .i64 s.inp, .int .i64 s.err, .bool s.comp, .bool s.halt] 28)).alloc (.cells #[.string x.src, .slice x.iA x.iN x.iC, .int .i64 x.size, .int .i64 x.depth, .int .i64 x.room] 30)).alloc (.cells #[.slice none 0 0, .slice none 0 0, .slice none 0 0, .slice none 0 0, .slice none 0 0, .slice none 0 0, .slice none 0 0, .int .i64 0, .int .i64 0, .int .i64 0, .int .i64 0, .int .i64 0, .int .i64 0, .bool false, .bool false] 28)) = W := ⟨_, rfl⟩
  have HB0 : Hid (Below w.heap.size w W) := Lib.hid (by rw [← hW]; exact hB0)
  have HA0 : Hid (Bx W w.heap.size 28 (stL q s)) := Lib.hid (by rw [← hW]; exact hS)
  have HX0 : Hid (Bx W (w.heap.size + 1) 30 (suL x)) := Lib.hid (by rw [← hW]; exact hX)
  have HR0 : Hid (Bx W (w.heap.size + 2) 28 (stL nilA zeroP)) := Lib.hid (by rw [← hW]; exact hR)
  have HP : Hid (RdP w q s) := Lib.hid hp
  have HWW := Lib.hid hW
  clear hp hB0 hS hX hR hW
  rw [stV_eq q s, suV_eq x]
  go_enter Tryz.func87, Tryz.ntmps87
  go_upto_region 1 with fail
  rw [HWW.out]
  have hW2 : w.heap.size + 2 < W.heap.size := HR0.out.lt
  have x0 : W.cell? ⟨w.heap.size + 1, 0, none⟩ = some (.string x.src) := HX0.out.cell 0
  have c9 : W.cell? ⟨w.heap.size, 9, none⟩ = some (.int .i64 s.pos) := HA0.out.cell 9
  go_wp2_with fail
  refine (L06.RUntil_any x.src s.pos 34 W hsz2 (by decide) (by decide)).mono ?_
  rintro r w1 ⟨rfl, rfl⟩
  rw [show L06.untilS x.src s.pos 34 = t from HT.out]
  go_wp2_with (refine wp_storeF rfl 3 _ _ rfl w.heap.size 9 _ rfl rfl rfl 28 _ HA0.out 15 rfl (by decide) info1i ?_)
  intro w2 hg2 hw2
  have HA2 : Hid (Bx w2 w.heap.size 28 (stL q s1)) := Lib.hid (by rw [← HS1.out]; exact hg2)
  have HX2 := Lib.hid (HX0.out.grown hw2 (by omega))
  have HR2 := Lib.hid (HR0.out.grown hw2 (by omega))
  have HB2 := Lib.hid (below_grown HB0.out HB0.out.size hw2 (Nat.le_refl _))
  have hW22 : W.heap.size ≤ w2.heap.size := hw2.size
  have hcomp := HF.out.2.2.2
  clear hg2 hw2 x0 c9
  have hr := HR.out
  rw [if_pos HC.out] at hr
  rw [HC.out] at hcomp
  have c13 : w2.cell? ⟨w.heap.size, 13, none⟩ = some (.bool true) := by have h := HA2.out.cell 13; rw [← hcomp]; exact h
  obtain ⟨n, hn⟩ : ∃ n, t.size = n := ⟨_, rfl⟩
  obtain ⟨u, hu⟩ : ∃ u, upR n = u := ⟨_, rfl⟩
  have hnb : n ≤ 200 := by rw [← hn]; exact HTS.out
  have hun : (n : Int) ≤ u := by rw [← hu]; exact up_ge (by omega) (by omega)
  obtain ⟨s2, hs2⟩ : ∃ a, emitS s1 [10, (n : Int)] = a := ⟨_, rfl⟩
  obtain ⟨e2, he2⟩ : ∃ a, emitE s1 [10, (n : Int)] = a := ⟨_, rfl⟩
  unfold layD emitD at hr
  rw [if_pos rfl] at hr
  simp only at hr
  rw [hn, hu, hs2, he2] at hr
  have HN := Lib.hid hn
  have HU := Lib.hid hu
  have HS2 := Lib.hid hs2
  have HE2 := Lib.hid he2
  have HR2' := Lib.hid hr
  clear hr HR hcomp hn hu hs2 he2
  go_wp2_with (refine wp_loadS rfl 28 _ rfl w.heap.size rfl 28 _ _ HA2.out Tryz.underlying28 rfl 15 infoSt rfl ?_)
  rw [HN.out]
  refine (REmit_any q s1 (some ⟨w2.heap.size, 0, none⟩) 2 2 [10, (n : Int)] s2 e2 _ rfl HS2.out HE2.out ((HP1.out.below HB2.out).below (below_lit _ _)) (rd_two w2 10 n) (by rw [HF.out.1]; omega) (by rw [HF.out.2.1]; omega)).mono ?_
  rintro r w3 ⟨q3, rfl, hres, hb⟩
  have hb' : Below w2.heap.size w2 w3 := below_two (below_lit _ _) hb
  have HB3 := Lib.hid (below_two HB2.out hb')
  have HR3 := Lib.hid (HR2.out.below hb')
  have HRES : Hid (Res w2.heap.size q s1 w3 q3 s2) := Lib.hid (hres.mono (by simp))
  have hw23 : w2.heap.size ≤ w3.heap.size := hb'.size
  have HBL := Lib.hid (below_lit w3 (.cells (stL nilA zeroP).toArray 28))
  have HBX : Hid (Bx (w3.alloc (.cells (stL nilA zeroP).toArray 28)) w3.heap.size 28 (stL nilA zeroP)) := Lib.hid (Bx.new w3 _ _ _ _ rfl rfl)
  clear hres hb hb' c13
  go_wp2_with (refine wp_storeS rfl 28 _ _ rfl w3.heap.size (stL q3 s2) rfl rfl 28 (stL nilA zeroP) HBX.out 15 infoSt rfl rfl (stL_one _ _) ?_)
  intro w5 hg5 hw5
  obtain ⟨g, hg⟩ : ∃ g, w3.heap.size = g := ⟨_, rfl⟩
  have HB5 := Lib.hid (below_grown (below_two HB3.out HBL.out) (below_two HB3.out HBL.out).size hw5 (by omega))
  have HR5 := Lib.hid ((HR3.out.below HBL.out).grown hw5 (by omega))
  have HD5 : Hid (Bd w2.heap.size w w5 g q s q3 s2) := Lib.hid ⟨by rw [← hg]; exact hg5, (HRES.out.rd.below HBL.out).grown HRES.out.rd.lies hw5 (by omega), fun S hS => by
      have h1 := HRES.out.rd.lies
      have h2 := HRES.out.lies _ (HLI.out S hS)
      have both : ∀ b, (S b ∨ w2.heap.size ≤ b) → b < w3.heap.size → (S b ∨ w2.heap.size ≤ b ∧ b ≠ g) := fun b hb hlt => hb.imp id (fun h => ⟨h, by omega⟩)
      exact ⟨fun a b c => both _ (h2.mem a b c) (h1.mem a b c), fun a b c => both _ (h2.data a b c) (h1.data a b c), fun a b c => both _ (h2.ret a b c) (h1.ret a b c), fun a b c => both _ (h2.ctl a b c) (h1.ctl a b c), fun a b c => both _ (h2.words a b c) (h1.words a b c), fun a b c => both _ (h2.spots a b c) (h1.spots a b c), fun a b c => both _ (h2.out a b c) (h1.out a b c)⟩,
    HB5.out, HR5.out, HP.out, by omega⟩
  rw [hg]
  clear hg5 hw5 hg HBX HBL HR3 HB3 HRES
  by_cases he0 : e2 = 0
  · subst he0
    obtain ⟨hh1, hh2, hh3, hh4⟩ := emit_two HE2.out
    rw [HS2.out] at hh1 hh4
    rw [HF.out.1] at hh3 hh4
    obtain ⟨H, hH⟩ : ∃ H, s2.here = H := ⟨_, rfl⟩
    obtain ⟨L, hL⟩ : ∃ L, s2.mem.length = L := ⟨_, rfl⟩
    rw [hH] at hh1
    rw [hL] at hh4
    have hH0 : 0 ≤ H := by omega
    have hHL : H ≤ L := by omega
    have hLb : L ≤ 1000000 := by omega
    have hr := HR2'.out
    rw [if_pos rfl] at hr
    have HL := Lib.hid hL
    have HH := Lib.hid hH
    have k0 : w5.cell? ⟨g, 0, none⟩ = some (.slice q3.m L q3.mc) := by have h := HD5.out.bx.cell 0; rw [← HL.out]; exact h
    have k8 : w5.cell? ⟨g, 8, none⟩ = some (.int .i64 H) := by have h := HD5.out.bx.cell 8; rw [← HH.out]; exact h
    have hwr : wrap64 ((L : Int) - H) = (L : Int) - H := wrap_in (by omega) (by omega)
    by_cases h1 : (L : Int) - H < u
    · have he : roomD u (s2, 0) = (s2, -8) := by
        unfold roomD
        rw [if_pos ⟨rfl, by show wrap64 ((s2.mem.length : Int) - s2.here) < u; rw [hL, hH, hwr]; exact h1⟩]
      have hno : ∀ k j, setsD t k j (s2, -8) = (s2, -8) := by
        intro k
        induction k with
        | zero => intro j; rfl
        | succ k ih => intro j; rw [setsD, setD, if_neg (show ¬ (-8 : Int) = 0 by decide)]; exact ih _
      rw [he, hno] at hr
      unfold upsD fin at hr
      rw [if_neg (show ¬ (-8 : Int) = 0 by decide)] at hr
      injection hr with ha hb
      subst ha hb
      have hg1 : decide (IntKind.i64.wrap ((L : Int) - H) < u) = true := by rw [decide_eq_true_eq, wrapW, hwr]; exact h1
      clear hL hH hwr he hno hh1 hh2 hh3 hh4
      go_upto_region 8 with fail
      go_quiet ((first | (go_at_call 18; refine quiet_sw (RUp_any _ u _ ?_ ?_ ?_) <;> first | (rw [HN.out]; exact HU.out) | omega | (rw [HN.out]; omega))))
      have HD6 := Lib.hid (HD5.out.below (bel_drewN w5 nq))
      go_wp2_with (refine wp_storeS rfl 28 _ _ rfl (w.heap.size + 2) (stL nilA zeroP) rfl rfl 28 _ HD6.out.rs 15 infoSt rfl rfl rfl ?_)
      intro w4 hg4 hw4
      have HG := Lib.hid hg4
      have HB4 := Lib.hid (below_grown HD6.out.bl HD6.out.bl.size hw4 (by omega))
      clear hg4 hw4
      go_wp2
      refine bodyPost_ret (results_S Tryz.results87 _ _ (w.heap.size + 2) 28 _ _ rfl HG.out Tryz.underlying28 rfl 15 infoSt rfl _ rfl) rfl ?_
      exact ⟨nilA, rfl, Res.zero _ _ _ _, HB4.out⟩
    · have hg1 : decide (IntKind.i64.wrap ((L : Int) - H) < u) = false := by rw [decide_eq_false_iff_not, wrapW, hwr]; exact h1
      have he : roomD u (s2, 0) = (s2, 0) := by
        unfold roomD
        rw [if_neg (fun h => h1 (by have h := h.2; simp only at h; rw [hL, hH, hwr] at h; exact h))]
      rw [he] at hr
      obtain ⟨s4, e4, hst⟩ : ∃ a b, setsD t n 0 (s2, 0) = (a, b) := ⟨_, _, rfl⟩
      rw [hst] at hr
      have HST := Lib.hid hst
      have HRR := Lib.hid hr
      clear hL hH hwr he hr hst hh1 hh2 hh3 hh4
      go_upto_region 8 with fail
      go_quiet ((first | (go_at_call 18; refine quiet_sw (RUp_any _ u _ ?_ ?_ ?_) <;> first | (rw [HN.out]; exact HU.out) | omega | (rw [HN.out]; omega))))
      have HD6 := Lib.hid (HD5.out.below (bel_drewN w5 nq))
      go_wp2_with fail
      go_loopw [10] (fun i wr => ∃ (j : Nat) (q1 : Ad) (sx : Ps), i = .int .i64 j ∧ j ≤ n ∧ Hid (setsD t (n - j) j (sx, 0) = (s4, e4)) ∧ Hid (Bd w2.heap.size w wr g q s q1 sx) ∧ Hid (sx.mem.length = L ∧ sx.here = H)) (fun i _ => n - (intOf i).toNat)
      case atStart => exact ⟨0, q3, s2, rfl, by omega, HST, HD6, Lib.hid ⟨HL.out, HH.out⟩⟩
      case round =>
        obtain ⟨j, q1, sx, rfl, hj, HS, HK, HLX⟩ := hrel
        by_cases hjn : j < n
        · have hlt : (j : Int) < t.size := by rw [HN.out]; omega
          have hj0 : (0 : Int) ≤ j := by omega
          have hgt := get_bt t j (by rw [HN.out]; exact hjn)
          have hbr := bt_range t j
          have hwj : IntKind.i64.wrap ((j : Int) + 1) = (j : Int) + 1 := IntWalk.i64_in _ (by omega)
          have m0 : wr.cell? ⟨g, 0, none⟩ = some (.slice q1.m L q1.mc) := by have h := HK.out.bx.cell 0; rw [← HLX.out.1]; exact h
          have m8 : wr.cell? ⟨g, 8, none⟩ = some (.int .i64 H) := by have h := HK.out.bx.cell 8; rw [← HLX.out.2]; exact h
          obtain ⟨m1, hm1⟩ : ∃ m1, setB sx.mem (H + j) (bt t j) = m1 := ⟨_, rfl⟩
          have hm1l : m1.length = L := by rw [← hm1, setB_len (by omega) (by rw [HLX.out.1]; omega), HLX.out.1]
          have hwb : IntKind.i64.wrap (bt t j) = bt t j := IntWalk.i64_in _ (by omega)
          have hwx : IntKind.i64.wrap (H + (j : Int)) = H + j := by rw [wrapW]; exact wrap_in (by omega) (by omega)
          have HNX : Hid (setsD t (n - (j + 1)) (j + 1) ({ sx with mem := m1 }, 0) = (s4, e4)) := Lib.hid (by
            have h := HS.out
            rw [setsD_step hjn, setD, if_pos rfl] at h
            simp only at h
            have e1 : wrap64 (sx.here + j) = H + j := by rw [HLX.out.2]; exact wrap_in (by omega) (by omega)
            rw [e1, hm1, byte_ok (by omega) (by rw [HLX.out.1]; omega)] at h
            exact h)
          have HMB : Hid (isB m1) := Lib.hid (by rw [← hm1]; exact isB_setD HK.out.rd.memB _ _)
          have HM1 := Lib.hid hm1
          have HM1L := Lib.hid hm1l
          have HBO : Hid (byteE L (H + j) = 0) := Lib.hid (byte_ok (by omega) (by omega))
          clear hm1 hm1l
          go_upto_region 13 with fail
          go_cut [11, 12] (fun a b wx => ∃ A c, a = .slice A L c ∧ Hid (Below wr.heap.size wr wx) ∧ Hid (wx.ownsRow wr.heap.size 5 1 (.slice A L c) L (nums .u8 m1)))
          case first =>
            go_region_law (first
              | (go_simp; go_at_call 118; refine (rsetb_is q1.m q1.mc L (H + j) (bt t j) sx.mem m1 wr.drew HLX.out.1 HM1.out HM1L.out (HK.out.rd.mem.below (Below.refl _ _).drew) (by omega)).mono ?_; rintro r w6 ⟨A, c, f, rfl, ho, hb⟩))
            all_goals
              have HO5 := Lib.hid ho
              have HB5 : Hid (Below wr.heap.size wr w6) := Lib.hid ((Below.refl _ _).drew.trans hb)
              clear ho hb
              go_wp2_with fail
              go_meet
              exact ⟨A, c, rfl, HB5, HO5⟩
          case rest =>
            obtain ⟨A, cA, rfl, HB6, HO6⟩ := hcut
            obtain ⟨w6, hW⟩ : ∃ W, W = wc := ⟨_, rfl⟩
            subst hW
            have HK6 := Lib.hid (HK.out.below HB6.out)
            have hgl := HK.out.bx.lt
            have hgwr : w2.heap.size ≤ wr.heap.size := by have := HK.out.gB; omega
            go_wp2_with (refine wp_storeF rfl 22 _ _ rfl g 0 _ rfl rfl rfl 28 _ HK6.out.bx 15 rfl (by decide) info1m ?_)
            intro w7 hg7 hw7
            have hO7 := own_keep HO6.out hw7 hgl
            have hab : 0 < L → ∀ ad, A = some ad → wr.heap.size ≤ ad.block := own_block_ge hO7
            have HK7 : Hid (Bd w2.heap.size w w7 g q s { q1 with m := A, mc := cA } { sx with mem := m1 }) := Lib.hid (HK6.out.mem hw7
              (by
                have e : (stL q1 sx).set 0 (.slice A L cA) = stL { q1 with m := A, mc := cA } { sx with mem := m1 } := by
                  unfold stL
                  rw [show ({ sx with mem := m1 } : Ps).mem.length = L from HM1L.out]
                  rfl
                rw [← e]
                exact hg7)
              (by
                have h := own_rd hO7
                show Rd w7 A m1.length cA 1 (nums .u8 m1)
                rw [HM1L.out]
                exact h) HMB.out (fun h0 ad e => by have h := hab (by rw [← HM1L.out]; exact h0) ad e; omega))
            clear hg7 hw7 hO7 hab
            go_wp2
            go_roundw
            case rel => exact ⟨j + 1, _, _, (by push_cast; rfl), by omega, HNX, HK7, Lib.hid ⟨HM1L.out, HLX.out.2⟩⟩
            case measure => simp [intOf]; omega
        · obtain rfl : j = n := by omega
          have hge : ¬ (j : Int) < t.size := by rw [HN.out]; omega
          have hs4 : (sx, (0 : Int)) = (s4, e4) := by
            have h := HS.out
            rw [Nat.sub_self, setsD] at h
            exact h
          injection hs4 with ha hb
          subst ha hb
          have m8 := HK.out.bx.cell 8
          have e8 : (stL q1 sx)[8]? = some (.int .i64 H) := by show some (Value.int .i64 sx.here) = _; rw [HLX.out.2]
          rw [e8] at m8
          have f8 := HK.out.bx.free 8
          clear e8
          go_upto_region 15 with fail
          go_region_law (first
            | (go_simp; go_at_call 18; refine (RUp_any _ u wr.drew (by first | exact HU.out | (rw [HN.out]; exact HU.out)) (by omega) (by first | omega | (rw [HN.out]; omega))).mono ?_; rintro r w9 ⟨rfl, rfl⟩))
          all_goals
            have HT9 : Hid (Bd w2.heap.size w (wr.setCell ⟨g, 8, none⟩ (.int .i64 (IntKind.i64.wrap (H + u)))).drew g q s q1 { sx with here := IntKind.i64.wrap (H + u) }) := Lib.hid ((HK.out.turn (s' := { sx with here := IntKind.i64.wrap (H + u) }) (grown_setCell wr g 8 _) (HK.out.bx.setc 8 (.int .i64 (IntKind.i64.wrap (H + u)))) (fun v h => h.withHere _) (fun S h => h.withHere _)).below (Below.refl _ _).drew)
            have hr := HRR.out
            unfold upsD fin at hr
            rw [if_pos rfl] at hr
            injection hr with ha hb
            have ha2 : ({ sx with here := IntKind.i64.wrap (H + u) } : Ps) = s' := by rw [wrapW, ← HLX.out.2]; exact ha
            rw [ha2] at HT9
            subst hb
            obtain ⟨w8, hw8⟩ : ∃ v, (wr.setCell ⟨g, 8, none⟩ (.int .i64 (IntKind.i64.wrap (H + u)))).drew = v := ⟨_, rfl⟩
            rw [hw8] at HT9 ⊢
            clear ha ha2 hw8
            go_wp2_with (first
              | (refine wp_loadS rfl 28 _ rfl g rfl 28 _ _ HT9.out.bx Tryz.underlying28 rfl 15 infoSt rfl ?_)
              | (refine wp_storeS rfl 28 _ _ rfl (w.heap.size + 2) (stL q1 s') rfl rfl 28 _ HT9.out.rs 15 infoSt rfl rfl (stL_one _ _) ?_))
            intro w10 hg10 hw10
            have HG := Lib.hid hg10
            have hgB := HT9.out.gB
            have HB10 := Lib.hid (below_grown HT9.out.bl HT9.out.bl.size hw10 (by omega))
            have HP10 := Lib.hid (HT9.out.rd.grown (HT9.out.lies _ HP.out.lies) hw10 (by omega))
            have HL10 : Hid (∀ S : Nat → Prop, Lies q s S → Lies q1 s' (fun b => S b ∨ w.heap.size ≤ b)) := Lib.hid (fun S hS => (HT9.out.lies S hS).mono (fun b hb => hb.imp id (fun h => by omega)))
            clear hg10 hw10
            go_wp2
            refine bodyPost_ret (results_S Tryz.results87 _ _ (w.heap.size + 2) 28 _ _ rfl HG.out Tryz.underlying28 rfl 15 infoSt rfl _ rfl) rfl ?_
            exact ⟨q1, rfl, ⟨HP10.out, HL10.out⟩, HB10.out⟩
  · have hr := HR2'.out
    rw [if_neg he0] at hr
    have hro : roomD u (s1, e2) = (s1, e2) := by
      unfold roomD
      rw [if_neg (fun h => he0 h.1)]
    have hno : ∀ k j, setsD t k j (s1, e2) = (s1, e2) := by
      intro k
      induction k with
      | zero => intro j; rfl
      | succ k ih => intro j; rw [setsD, setD, if_neg he0]; exact ih _
    rw [hro, hno] at hr
    unfold upsD fin at hr
    rw [if_neg he0] at hr
    injection hr with ha hb
    subst ha hb
    clear hro hno
    go_wp2_with (refine wp_storeS rfl 28 _ _ rfl (w.heap.size + 2) (stL nilA zeroP) rfl rfl 28 _ HR5.out 15 infoSt rfl rfl rfl ?_)
    intro w4 hg4 hw4
    have HG := Lib.hid hg4
    have HB4 := Lib.hid (below_grown HB5.out HB5.out.size hw4 (by omega))
    clear hg4 hw4
    go_wp2
    refine bodyPost_ret (results_S Tryz.results87 _ _ (w.heap.size + 2) 28 _ _ rfl HG.out Tryz.underlying28 rfl 15 infoSt rfl _ rfl) rfl ?_
    exact ⟨nilA, rfl, Res.zero _ _ _ _, HB4.out⟩

theorem RQuote_go (q : Ad) (s : Ps) (x : Sx) (s' : Ps) (e' : Int) (w : World) (hr : fin (quoteD x (s, 0)) = (s', e')) (hp : RdP w q s) (hsz : x.src.size ≤ 200)
    (hm : s.mem.length ≤ 1000000) (hsp : s.spots.length ≤ 100000) (ho : s.out.length ≤ 100000) :
    Calls Tryz.prog 87 #[stV q s, suV x] w fun e w' => ∃ q', e = .returned (.tuple #[stV q' s', .int .i64 e']) ∧ Res w.heap.size q s w' q' s' ∧ Below w.heap.size w w' := by
  cases hc : s.comp with
  | true => exact RQuote_yes q s x s' e' w hr hc hp hsz hm hsp ho
  | false => exact RQuote_no q s x s' e' w hr hc hp hsz hm hsp ho
end Go.Proofs.YtappfhjknihboaaGreatDoor
