/-  -/
import Derived.Test.YtappfhjknihboaaGreatDoorMJ
import Derived.Laws.IdiomStrings
import Derived.Test.YtappfhjknihboaaGreatDoorMH
import Derived.StillTailTactics
import Derived.Deep.QuietTactic
import Derived.BigQuiet

/- The reference's Say. -/
namespace Go.Proofs.YtappfhjknihboaaGreatDoor
open Go.RowKit

theorem rd_bytes (w : World) (s : ByteArray) (cap : Nat) (e : TypeId) (fr : Nat × Nat) (h : s.size ≤ cap) (hm : cap ≤ maxLen) : Rd (w.alloc (.cells (bytesRow s cap) e fr)) (some ⟨w.heap.size, 0, none⟩) s.size cap 1 (nums .u8 (outS s)) :=
  ⟨by rw [← outS_len s]; simp [nums], h, hm, fun hn => by (cases hn), fun j u hj => by
    refine ⟨_, rfl, ?_⟩
    have hj2 : j < s.data.size := by
      have := (List.getElem?_eq_some_iff.1 hj).1
      rw [nums, List.length_map, outS_len] at this
      exact this
    rw [Addr.add_lit, Nat.zero_add, cell_of_row _ w.heap.size j _ e fr (heap_alloc_new w _), bytesRow_at s cap j hj2, ← hj]
    have : j < s.data.toList.length := by simpa using hj2
    simp [nums, outS, Array.getElem?_eq_getElem hj2]⟩
set_option maxRecDepth 100000 in
set_option maxHeartbeats 2000000 in
theorem RSay_any (q : Ad) (s : Ps) (x : Sx) (b : ByteArray) (s' : Ps) (e' : Int) (w : World) (hs : sayS s x b = s') (he : sayE s x b = e') (hp : RdP w q s) (hol : s.out.length ≤ 100000) (hb : b.size ≤ 100000) :
    Calls Tryz.prog 16 #[stV q s, suV x, .string b] w fun e w' => ∃ q', e = .returned (.tuple #[stV q' s', .int .i64 e']) ∧ Res w.heap.size q s w' q' s' ∧ Below w.heap.size w w' := by
  have hB0 := below_two (below_two (below_lit w (.cells (stL q s).toArray 28)) (below_lit _ (.cells (suL x).toArray 30))) (below_lit _ (.cells (stL nilA zeroP).toArray 28))
  have hS : Bx (((w.alloc (.cells (stL q s).toArray 28)).alloc (.cells (suL x).toArray 30)).alloc (.cells (stL nilA zeroP).toArray 28)) w.heap.size 28 (stL q s) := ((Bx.new w _ _ _ _ rfl rfl).alloc _).alloc _
  have hX : Bx (((w.alloc (.cells (stL q s).toArray 28)).alloc (.cells (suL x).toArray 30)).alloc (.cells (stL nilA zeroP).toArray 28)) (w.heap.size + 1) 30 (suL x) := (Bx.new _ _ _ _ _ (by simp) rfl).alloc _
  have hR : Bx (((w.alloc (.cells (stL q s).toArray 28)).alloc (.cells (suL x).toArray 30)).alloc (.cells (stL nilA zeroP).toArray 28)) (w.heap.size + 2) 28 (stL nilA zeroP) := Bx.new _ _ _ _ _ (by simp) rfl
  obtain ⟨W, hW⟩ : ∃ W, ((w.alloc (.cells #[.slice q.m s.mem.length q.mc, .slice q.d s.data.length q.dc, .slice q.r s.ret.length q.rc, .slice q.c s.ctl.length q.cc, .slice q.w s.words.length q.wc, .slice q.s s.spots.length q.sc, .slice q.o s.out.length q.oc, .int .i64 s.ip, .int .i64 s.here, .int .i64 s.pos, .int .i64 s.tok, .int .i64 s.inp, .int .i64 s.err, .bool s.comp, .bool s.halt] 28)).alloc (.cells #[.string x.src, .slice x.iA x.iN x.iC, .int .i64 x.size, .int .i64 x.depth, .int .i64 x.room] 30)).alloc (.cells #[.slice none 0 0, .slice none 0 0, .slice none 0 0, .slice none 0 0, .slice none 0 0, .slice none 0 0, .slice none 0 0, .int .i64 0, .int .i64 0, .int .i64 0, .int .i64 0, .int .i64 0, .int .i64 0, .bool false, .bool false] 28) = W := ⟨_, rfl⟩
  have HB0 : Hid (Below w.heap.size w W) := Lib.hid (by rw [← hW]; exact hB0)
  have HS : Hid (Bx W w.heap.size 28 (stL q s)) := Lib.hid (by rw [← hW]; exact hS)
  have HX : Hid (Bx W (w.heap.size + 1) 30 (suL x)) := Lib.hid (by rw [← hW]; exact hX)
  have HR : Hid (Bx W (w.heap.size + 2) 28 (stL nilA zeroP)) := Lib.hid (by rw [← hW]; exact hR)
  have HP : Hid (RdP W q s) := Lib.hid (hp.below HB0.out)
  have HL : Hid (Lies q s (fun b => b < w.heap.size)) := Lib.hid hp.lies
  have HWW := Lib.hid hW
  have hn := hp.out.le
  have hcp := hp.out.cap
  unfold maxLen at hcp
  clear hp hB0 hS hX hR hW
  unfold sayS at hs
  unfold sayE at he
  rw [stV_eq q s, suV_eq x]
  go_enter Tryz.func16, Tryz.ntmps16
  by_cases hrm : x.room < s.out.length + b.size
  · rw [if_pos hrm] at hs he
    subst hs he
    go_wp2_with (refine wp_storeS rfl 28 _ _ rfl (w.heap.size + 2) (stL nilA zeroP) rfl rfl 28 (stL nilA zeroP) (by rw [HWW.out]; exact HR.out) 15 infoSt rfl rfl rfl ?_)
    rw [HWW.out]
    intro w2 hg2 hw2
    have HG := Lib.hid hg2
    have HB2 := Lib.hid (below_grown HB0.out HB0.out.size hw2 (by omega))
    clear hg2 hw2
    go_wp2
    refine bodyPost_ret (v := .tuple #[stV nilA zeroP, .int .i64 (-57)]) (results_S Tryz.results16 _ _ (w.heap.size + 2) 28 _ _ rfl HG.out Tryz.underlying28 rfl 15 infoSt rfl _ rfl) rfl ?_
    exact ⟨nilA, rfl, Res.zero _ _ _ _, HB2.out⟩
  · rw [if_neg hrm] at hs he
    subst hs he
    have HWB := Lib.hid (below_two HB0.out (below_lit W (.cells #[] 5)))
    have hWs : W.heap.size = w.heap.size + 1 + 1 + 1 := by rw [← HWW.out]; simp
    have HE0 : Hid ((W.alloc (.cells #[] 5)).ownsRow (w.heap.size + 1 + 1 + 1) 5 1 (.slice (some ⟨w.heap.size + 1 + 1 + 1, 0, none⟩) 0 0) 0 []) := Lib.hid (by rw [← hWs]; exact ⟨rfl, .inr ⟨W.heap.size, 0, #[], rfl, Nat.le_refl _, heap_alloc_new W _, Nat.le_refl _, by decide, rfl, rfl⟩⟩)
    have HWS := Lib.hid hWs
    clear hWs
    have HSs := Lib.hid (HS.out.alloc (.cells #[] 5))
    have HPs := Lib.hid (HP.out.below (below_lit W (.cells #[] 5)))
    go_wp2_with (first
      | (at_builtin; (refine wp_app (w0 := W) rfl (.tmp 19) (.tmp 21) 22 5 (.int .u8 0) 1 1 rfl Tryz.underlying22 infoB1 rfl (by decide) (by decide) (w.heap.size + 1 + 1 + 1) _ 0 [] rfl (by rw [HWW.out]; exact HE0.out) q.o s.out.length q.oc (nums .u8 s.out) rfl (by rw [HWW.out]; exact HPs.out.out) (nums_one _ _) (by omega) (by rw [HWW.out]; simp [HWS.out]) (by rw [HWW.out]; exact (below_lit W _).mono (by rw [HWS.out]; exact Nat.le_refl _)) ?_)))
    intro v2 w2 ho hb2 _
    have hb2' : Below W.heap.size W w2 := by
      have h := hb2
      rw [← HWS.out] at h
      exact h
    have HO2 : Hid (w2.ownsRow W.heap.size 5 1 v2 s.out.length (nums .u8 s.out)) := Lib.hid (by
      have h := ho
      rw [← HWS.out] at h
      exact h)
    have HB2 := Lib.hid hb2'
    have hcv : ∀ w : World, (convert 9 22 (.string b)).run Tryz.prog w = .ok (.slice (some ⟨w.heap.size, 0, none⟩) b.size (grownCap w b.size 0 5)) (w.drew.alloc (.cells (bytesRow b (grownCap w b.size 0 5)) 5 ((bytesRow b (grownCap w b.size 0 5)).size, (bytesRow b (grownCap w b.size 0 5)).size + 1))) := fun w => run_bytes_of_string w 9 22 5 b Tryz.underlying9 Tryz.underlying22 Tryz.underlying5
    obtain ⟨cb, hcb⟩ : ∃ c, grownCap w2 b.size 0 5 = c := ⟨_, rfl⟩
    have hc1 := grownCap_ge w2 b.size 0 5
    have hc2 := grownCap_le_maxLen w2 b.size 0 5 (by simp only [maxLen]; omega)
    rw [hcb] at hc1 hc2
    have HC1 := Lib.hid hc1
    have HC2 := Lib.hid hc2
    have HCB := Lib.hid hcb
    have hcv2 := hcv w2
    rw [hcb] at hcv2
    obtain ⟨W3, hW3⟩ : ∃ w', w2.drew.alloc (.cells (bytesRow b cb) 5 ((bytesRow b cb).size, (bytesRow b cb).size + 1)) = w' := ⟨_, rfl⟩
    have HB3 : Hid (Below w2.heap.size w2 W3) := Lib.hid (by rw [← hW3]; exact below_two (Below.refl _ _).drew (below_lit _ _))
    have HD3 : Hid (Rd W3 (some ⟨w2.heap.size, 0, none⟩) b.size cb 1 (nums .u8 (outS b))) := Lib.hid (by rw [← hW3]; exact rd_bytes w2.drew b cb _ _ HC1.out HC2.out)
    rw [hW3] at hcv2
    clear ho hb2 hb2' hcv hc1 hc2 hcb hW3
    go_wp2_with (first
      | (at_builtin; refine wp_app (w0 := W) rfl (.tmp 23) (.tmp 25) 22 5 (.int .u8 0) 1 1 rfl Tryz.underlying22 infoB1 rfl (by decide) (by decide) W.heap.size _ s.out.length (nums .u8 s.out) rfl (own_below HO2.out HB3.out) _ b.size cb (nums .u8 (outS b)) rfl HD3.out (nums_one _ _) (by omega) (Nat.le_trans HB2.out.size HB3.out.size) (HB2.out.trans (HB3.out.mono HB2.out.size)) ?_))
    intro v4 w4 ho4 hb4 _
    obtain ⟨A', c', rfl, hr4⟩ := Rd.own ho4
    have HRD : Hid (RdI w4 .u8 A' c' (s.out ++ outS b)) := Lib.hid (by
      have h := hr4
      rw [show s.out.length + b.size = (s.out ++ outS b).length by rw [List.length_append, outS_len]] at h
      show Rd w4 A' (s.out ++ outS b).length c' 1 (nums .u8 (s.out ++ outS b))
      rw [show nums .u8 (s.out ++ outS b) = nums .u8 s.out ++ nums .u8 (outS b) by simp [nums]]
      exact h)
    have HA : Hid (0 < s.out.length + b.size → ∀ ad, A' = some ad → W.heap.size ≤ ad.block) := Lib.hid (own_block_ge ho4)
    have HB4 := Lib.hid hb4
    have HS2 := Lib.hid (HS.out.below hb4)
    have HR2 := Lib.hid (HR.out.below hb4)
    have hsz := HR.out.lt
    clear ho4 hb4 hr4 hcv2 HO2 HB3 HD3
    go_wp2_with (refine wp_storeF rfl 22 _ _ rfl w.heap.size 6 _ rfl rfl rfl 28 _ HS2.out 15 rfl (by decide) info1m ?_)
    intro w5 hg3 hw3
    have HS3 : Hid (Bx w5 w.heap.size 28 (stL { q with o := A', oc := c' } { s with out := s.out ++ outS b })) := Lib.hid (by
      have e : (stL q s).set 6 (.slice A' (s.out.length + b.size) c') = stL { q with o := A', oc := c' } { s with out := s.out ++ outS b } := by
        unfold stL
        rw [show (s.out ++ outS b).length = s.out.length + b.size by rw [List.length_append, outS_len]]
        rfl
      rw [← e]
      exact hg3)
    have HR3 := Lib.hid (HR2.out.grown hw3 (by omega))
    have HW3 := Lib.hid hw3
    clear hg3 hw3
    go_wp2_with (first
      | (refine wp_loadS rfl 28 _ rfl w.heap.size rfl 28 _ _ HS3.out Tryz.underlying28 rfl 15 infoSt rfl ?_)
      | (refine wp_storeS rfl 28 _ _ rfl (w.heap.size + 2) (stL { q with o := A', oc := c' } { s with out := s.out ++ outS b }) rfl rfl 28 _ HR3.out 15 infoSt rfl rfl (stL_one _ _) ?_))
    intro w6 hg4 hw4
    have HG4 := Lib.hid hg4
    have HW4 := Lib.hid hw4
    clear hg4 hw4
    have HOLD : ∀ S : Nat → Prop, Lies q s S → Lies { q with o := A', oc := c' } { s with out := s.out ++ outS b } (fun b => S b ∨ W.heap.size ≤ b) := by
      intro S h
      refine ⟨fun a b c => .inl (h.mem a b c), fun a b c => .inl (h.data a b c), fun a b c => .inl (h.ret a b c), fun a b c => .inl (h.ctl a b c), fun a b c => .inl (h.words a b c), fun a b c => .inl (h.spots a b c), fun h0 ad e => ?_⟩
      have h0 : 0 < (s.out ++ outS b).length := h0
      rw [List.length_append, outS_len] at h0
      exact .inr (HA.out h0 ad e)
    have HOL := Lib.hid HOLD
    have HOO := Lib.hid (HOLD _ HL.out)
    clear HOLD
    have hR3 : RdP w6 { q with o := A', oc := c' } { s with out := s.out ++ outS b } :=
      (((HP.out.below HB4.out).withOut HRD.out (isB_app HP.out.outB (outS_isB b))).grown HOO.out HW3.out (by omega)).grown HOO.out HW4.out (by omega)
    have HR5 := Lib.hid hR3
    clear hR3
    have hWs : w.heap.size ≤ W.heap.size := HB0.out.size
    have HBE := Lib.hid (below_grown (below_grown (below_two HB0.out HB4.out) (below_two HB0.out HB4.out).size HW3.out (Nat.le_refl _)) (Nat.le_trans (below_two HB0.out HB4.out).size HW3.out.size) HW4.out (by omega))
    go_wp2
    refine bodyPost_ret (v := .tuple #[stV { q with o := A', oc := c' } { s with out := s.out ++ outS b }, .int .i64 0]) (results_S Tryz.results16 _ _ (w.heap.size + 2) 28 _ _ rfl HG4.out Tryz.underlying28 rfl 15 infoSt rfl _ rfl) rfl ?_
    exact ⟨_, rfl, ⟨HR5.out, fun S hS => (HOL.out S hS).mono (fun b hb => hb.imp id (fun h => by omega))⟩, HBE.out⟩
end Go.Proofs.YtappfhjknihboaaGreatDoor


/- nostosref10: are two states the same (of states that are); a state of few things. -/
namespace Go.Proofs.YtappfhjknihboaaGreatDoor
open Go.RowKit

set_option maxHeartbeats 1000000 in
theorem ints_same (A B : Option Addr) (ca cb n : Nat) (l : List Int) (w : World) (hn : l.length = n) (hx : RdI w .i64 A ca l) (hy : RdI w .i64 B cb l) (hc : n ≤ 140737488355328) :
    Calls Tryz.prog 28 #[.slice A n ca, .slice B n cb] w fun e w' => e = .returned (.bool true) ∧ Below w.heap.size w w' := by
  have HN := Lib.hid hn
  have HX := Lib.hid hx
  have HY := Lib.hid hy
  have HW0 := Lib.hid (Below.refl w.heap.size w)
  clear hx hy hn
  go_enter Tryz.func28, Tryz.ntmps28
  go_wp2_with fail
  go_loopw [5] (fun y wi => ∃ k : Nat, y = .int .i64 k ∧ k ≤ n ∧ Hid (Below w.heap.size w wi)) (fun y _ => n - (intOf y).toNat)
  case atStart => exact ⟨0, rfl, by omega, HW0⟩
  case round =>
    obtain ⟨k, rfl, hk, HB⟩ := hrel
    by_cases hlt : k < n
    · have hkl : k < l.length := by rw [HN.out]; exact hlt
      obtain ⟨ad, rfl, e0⟩ := RdI.at_ (HX.out.below HB.out) hkl
      obtain ⟨bd, rfl, g0⟩ := RdI.at_ (HY.out.below HB.out) hkl
      obtain ⟨y, hy⟩ : ∃ y, l.getD k 0 = y := ⟨_, rfl⟩
      rw [hy] at e0 g0
      have b1 : (0 : Int) ≤ (k : Int) := by omega
      have b2 : (k : Int) < (n : Int) := by omega
      clear hy
      go_wp2_with fail
      go_quiet (fail)
      have HB2 := Lib.hid (below_two HB.out (below_drewN wr nq))
      go_wp2
      go_roundw
      case rel => exact ⟨k + 1, by go_num, by omega, HB2⟩
      case measure => simp [intOf] <;> omega
    · go_wp2
      go_ret
      exact ⟨rfl, HB.out⟩

set_option maxHeartbeats 1000000 in
theorem slots_same (A B : Option Addr) (ca cb n : Nat) (l : List (Int × Bool)) (w : World) (hn : l.length = n) (hx : RdE w encSl 2 A ca l) (hy : RdE w encSl 2 B cb l) (hc : n ≤ 140737488355328) :
    Calls Tryz.prog 29 #[.slice A n ca, .slice B n cb] w fun e w' => e = .returned (.bool true) ∧ Below w.heap.size w w' := by
  have HN := Lib.hid hn
  have HX := Lib.hid hx
  have HY := Lib.hid hy
  have HW0 := Lib.hid (Below.refl w.heap.size w)
  clear hx hy hn
  go_enter Tryz.func29, Tryz.ntmps29
  go_wp2_with fail
  go_loopw [5] (fun y wi => ∃ k : Nat, y = .int .i64 k ∧ k ≤ n ∧ Hid (Below w.heap.size w wi)) (fun y _ => n - (intOf y).toNat)
  case atStart => exact ⟨0, rfl, by omega, HW0⟩
  case round =>
    obtain ⟨k, rfl, hk, HB⟩ := hrel
    by_cases hlt : k < n
    · have hkl : k < l.length := by rw [HN.out]; exact hlt
      obtain ⟨ad, had, hcad⟩ := RdE.all encSl_len (by decide) (HX.out.below HB.out) (by omega)
      obtain rfl := had
      obtain ⟨bd, hbd, hcbd⟩ := RdE.all encSl_len (by decide) (HY.out.below HB.out) (by omega)
      obtain rfl := hbd
      have e0 := hcad.at0 hkl (v := .int .i64 (l[k]!).1) rfl
      have e1 := hcad.at' hkl 1 (by decide) (v := .bool (l[k]!).2) rfl
      have g0 := hcbd.at0 hkl (v := .int .i64 (l[k]!).1) rfl
      have g1 := hcbd.at' hkl 1 (by decide) (v := .bool (l[k]!).2) rfl
      obtain ⟨y, hy⟩ : ∃ y, l[k]! = y := ⟨_, rfl⟩
      rw [hy] at e0 e1 g0 g1
      clear hcad hcbd
      have b1 : (0 : Int) ≤ (k : Int) := by omega
      have b2 : (k : Int) < (n : Int) := by omega
      clear hy
      go_wp2_with fail
      go_quiet (fail)
      have HB2 := Lib.hid (below_two HB.out (below_drewN wr nq))
      go_wp2
      go_roundw
      case rel => exact ⟨k + 1, by go_num, by omega, HB2⟩
      case measure => simp [intOf] <;> omega
    · go_wp2
      go_ret
      exact ⟨rfl, HB.out⟩

set_option maxHeartbeats 1000000 in
theorem words_same (A B : Option Addr) (ca cb n : Nat) (l : List Wd) (w : World) (hn : l.length = n) (hx : RdE w encW 4 A ca l) (hy : RdE w encW 4 B cb l) (hc : n ≤ 140737488355328) :
    Calls Tryz.prog 30 #[.slice A n ca, .slice B n cb] w fun e w' => e = .returned (.bool true) ∧ Below w.heap.size w w' := by
  have HN := Lib.hid hn
  have HX := Lib.hid hx
  have HY := Lib.hid hy
  have HW0 := Lib.hid (Below.refl w.heap.size w)
  clear hx hy hn
  go_enter Tryz.func30, Tryz.ntmps30
  go_wp2_with fail
  go_loopw [5] (fun y wi => ∃ k : Nat, y = .int .i64 k ∧ k ≤ n ∧ Hid (Below w.heap.size w wi)) (fun y _ => n - (intOf y).toNat)
  case atStart => exact ⟨0, rfl, by omega, HW0⟩
  case round =>
    obtain ⟨k, rfl, hk, HB⟩ := hrel
    by_cases hlt : k < n
    · have hkl : k < l.length := by rw [HN.out]; exact hlt
      obtain ⟨ad, had, hcad⟩ := RdE.all encW_len (by decide) (HX.out.below HB.out) (by omega)
      obtain rfl := had
      obtain ⟨bd, hbd, hcbd⟩ := RdE.all encW_len (by decide) (HY.out.below HB.out) (by omega)
      obtain rfl := hbd
      have e0 := hcad.at0 hkl (v := .string (l[k]!).nm) rfl
      have e1 := hcad.at' hkl 1 (by decide) (v := .int .i64 (l[k]!).code) rfl
      have e2 := hcad.at' hkl 2 (by decide) (v := .bool (l[k]!).now) rfl
      have e3 := hcad.at' hkl 3 (by decide) (v := .bool (l[k]!).hid) rfl
      have g0 := hcbd.at0 hkl (v := .string (l[k]!).nm) rfl
      have g1 := hcbd.at' hkl 1 (by decide) (v := .int .i64 (l[k]!).code) rfl
      have g2 := hcbd.at' hkl 2 (by decide) (v := .bool (l[k]!).now) rfl
      have g3 := hcbd.at' hkl 3 (by decide) (v := .bool (l[k]!).hid) rfl
      obtain ⟨y, hy⟩ : ∃ y, l[k]! = y := ⟨_, rfl⟩
      rw [hy] at e0 e1 e2 e3 g0 g1 g2 g3
      clear hcad hcbd
      have b1 : (0 : Int) ≤ (k : Int) := by omega
      have b2 : (k : Int) < (n : Int) := by omega
      clear hy
      go_wp2_with fail
      go_quiet (fail)
      have HB2 := Lib.hid (below_two HB.out (below_drewN wr nq))
      go_wp2
      go_roundw
      case rel => exact ⟨k + 1, by go_num, by omega, HB2⟩
      case measure => simp [intOf] <;> omega
    · go_wp2
      go_ret
      exact ⟨rfl, HB.out⟩

set_option maxHeartbeats 1000000 in
theorem spots_same (A B : Option Addr) (ca cb n : Nat) (l : List (Int × Int)) (w : World) (hn : l.length = n) (hx : RdE w encSp 2 A ca l) (hy : RdE w encSp 2 B cb l) (hc : n ≤ 140737488355328) :
    Calls Tryz.prog 31 #[.slice A n ca, .slice B n cb] w fun e w' => e = .returned (.bool true) ∧ Below w.heap.size w w' := by
  have HN := Lib.hid hn
  have HX := Lib.hid hx
  have HY := Lib.hid hy
  have HW0 := Lib.hid (Below.refl w.heap.size w)
  clear hx hy hn
  go_enter Tryz.func31, Tryz.ntmps31
  go_wp2_with fail
  go_loopw [5] (fun y wi => ∃ k : Nat, y = .int .i64 k ∧ k ≤ n ∧ Hid (Below w.heap.size w wi)) (fun y _ => n - (intOf y).toNat)
  case atStart => exact ⟨0, rfl, by omega, HW0⟩
  case round =>
    obtain ⟨k, rfl, hk, HB⟩ := hrel
    by_cases hlt : k < n
    · have hkl : k < l.length := by rw [HN.out]; exact hlt
      obtain ⟨ad, had, hcad⟩ := RdE.all encSp_len (by decide) (HX.out.below HB.out) (by omega)
      obtain rfl := had
      obtain ⟨bd, hbd, hcbd⟩ := RdE.all encSp_len (by decide) (HY.out.below HB.out) (by omega)
      obtain rfl := hbd
      have e0 := hcad.at0 hkl (v := .int .i64 (l[k]!).1) rfl
      have e1 := hcad.at' hkl 1 (by decide) (v := .int .i64 (l[k]!).2) rfl
      have g0 := hcbd.at0 hkl (v := .int .i64 (l[k]!).1) rfl
      have g1 := hcbd.at' hkl 1 (by decide) (v := .int .i64 (l[k]!).2) rfl
      obtain ⟨y, hy⟩ : ∃ y, l[k]! = y := ⟨_, rfl⟩
      rw [hy] at e0 e1 g0 g1
      clear hcad hcbd
      have b1 : (0 : Int) ≤ (k : Int) := by omega
      have b2 : (k : Int) < (n : Int) := by omega
      clear hy
      go_wp2_with fail
      go_quiet (fail)
      have HB2 := Lib.hid (below_two HB.out (below_drewN wr nq))
      go_wp2
      go_roundw
      case rel => exact ⟨k + 1, by go_num, by omega, HB2⟩
      case measure => simp [intOf] <;> omega
    · go_wp2
      go_ret
      exact ⟨rfl, HB.out⟩

end Go.Proofs.YtappfhjknihboaaGreatDoor


/- nostosref10.Same (of two states that are), Few. -/
namespace Go.Proofs.YtappfhjknihboaaGreatDoor
open Go.RowKit

set_option maxHeartbeats 2000000 in
theorem Same_any (q1 q2 : Ad) (s : Ps) (w : World) (h1 : RdP w q1 s) (h2 : RdP w q2 s) (hd : s.data.length ≤ 140737488355328) (hr : s.ret.length ≤ 140737488355328) (hc : s.ctl.length ≤ 140737488355328) (hw : s.words.length ≤ 140737488355328) (hsp : s.spots.length ≤ 140737488355328) :
    Calls Tryz.prog 12 #[stV q1 s, stV q2 s] w fun e w' => e = .returned (.bool true) ∧ Below w.heap.size w w' := by
  have HB0 := Lib.hid (below_two (below_lit w (.cells (stL q1 s).toArray 28)) (below_lit _ (.cells (stL q2 s).toArray 28)))
  have HP1 := Lib.hid h1
  have HP2 := Lib.hid h2
  have HG1 : Hid (Bx ((w.alloc (.cells (stL q1 s).toArray 28)).alloc (.cells (stL q2 s).toArray 28)) w.heap.size 28 (stL q1 s)) := Lib.hid ((Bx.new w _ _ _ _ rfl rfl).alloc _)
  have HG2 : Hid (Bx ((w.alloc (.cells (stL q1 s).toArray 28)).alloc (.cells (stL q2 s).toArray 28)) (w.heap.size + 1) 28 (stL q2 s)) := Lib.hid (Bx.new _ _ _ _ _ (by simp) rfl)
  clear h1 h2
  rw [stV_eq q1 s, stV_eq q2 s]
  go_enter Tryz.func12, Tryz.ntmps12
  go_wp2_with fail
  refine (ints_same q1.d q2.d q1.dc q2.dc _ s.data _ rfl (HP1.out.below HB0.out).data (HP2.out.below HB0.out).data hd).mono ?_
  rintro e w1 ⟨rfl, hb⟩
  have HB1 := Lib.hid (below_two HB0.out hb)
  have HG1 := Lib.hid (HG1.out.below hb)
  have HG2 := Lib.hid (HG2.out.below hb)
  clear hb HB0
  have c1 : w1.cell? ⟨w.heap.size, 2, none⟩ = some (.slice q1.r s.ret.length q1.rc) := HG1.out.cell 2
  have c2 : w1.cell? ⟨w.heap.size + 1, 2, none⟩ = some (.slice q2.r s.ret.length q2.rc) := HG2.out.cell 2
  go_wp2_with fail
  clear c1 c2
  refine (slots_same q1.r q2.r q1.rc q2.rc _ s.ret _ rfl (HP1.out.below HB1.out).ret (HP2.out.below HB1.out).ret hr).mono ?_
  rintro e w2 ⟨rfl, hb⟩
  have HB2 := Lib.hid (below_two HB1.out hb)
  have HG1 := Lib.hid (HG1.out.below hb)
  have HG2 := Lib.hid (HG2.out.below hb)
  clear hb HB1
  have c1 : w2.cell? ⟨w.heap.size, 3, none⟩ = some (.slice q1.c s.ctl.length q1.cc) := HG1.out.cell 3
  have c2 : w2.cell? ⟨w.heap.size + 1, 3, none⟩ = some (.slice q2.c s.ctl.length q2.cc) := HG2.out.cell 3
  go_wp2_with fail
  clear c1 c2
  refine (ints_same q1.c q2.c q1.cc q2.cc _ s.ctl _ rfl (HP1.out.below HB2.out).ctl (HP2.out.below HB2.out).ctl hc).mono ?_
  rintro e w3 ⟨rfl, hb⟩
  have HB3 := Lib.hid (below_two HB2.out hb)
  have HG1 := Lib.hid (HG1.out.below hb)
  have HG2 := Lib.hid (HG2.out.below hb)
  clear hb HB2
  have c1 : w3.cell? ⟨w.heap.size, 4, none⟩ = some (.slice q1.w s.words.length q1.wc) := HG1.out.cell 4
  have c2 : w3.cell? ⟨w.heap.size + 1, 4, none⟩ = some (.slice q2.w s.words.length q2.wc) := HG2.out.cell 4
  go_wp2_with fail
  clear c1 c2
  refine (words_same q1.w q2.w q1.wc q2.wc _ s.words _ rfl (HP1.out.below HB3.out).words (HP2.out.below HB3.out).words hw).mono ?_
  rintro e w4 ⟨rfl, hb⟩
  have HB4 := Lib.hid (below_two HB3.out hb)
  have HG1 := Lib.hid (HG1.out.below hb)
  have HG2 := Lib.hid (HG2.out.below hb)
  clear hb HB3
  have c1 : w4.cell? ⟨w.heap.size, 5, none⟩ = some (.slice q1.s s.spots.length q1.sc) := HG1.out.cell 5
  have c2 : w4.cell? ⟨w.heap.size + 1, 5, none⟩ = some (.slice q2.s s.spots.length q2.sc) := HG2.out.cell 5
  go_wp2_with fail
  clear c1 c2
  refine (spots_same q1.s q2.s q1.sc q2.sc _ s.spots _ rfl (HP1.out.below HB4.out).spots (HP2.out.below HB4.out).spots hsp).mono ?_
  rintro e w5 ⟨rfl, hb⟩
  have HB5 := Lib.hid (below_two HB4.out hb)
  have HG1 := Lib.hid (HG1.out.below hb)
  have HG2 := Lib.hid (HG2.out.below hb)
  clear hb HB4
  have c1 : w5.cell? ⟨w.heap.size, 0, none⟩ = some (.slice q1.m s.mem.length q1.mc) := HG1.out.cell 0
  have c2 : w5.cell? ⟨w.heap.size + 1, 0, none⟩ = some (.slice q2.m s.mem.length q2.mc) := HG2.out.cell 0
  have c3 : w5.cell? ⟨w.heap.size, 6, none⟩ = some (.slice q1.o s.out.length q1.oc) := HG1.out.cell 6
  have c4 : w5.cell? ⟨w.heap.size + 1, 6, none⟩ = some (.slice q2.o s.out.length q2.oc) := HG2.out.cell 6
  have v1 := conv_rd (P := Tryz.prog) Tryz.underlying22 Tryz.underlying5 Tryz.underlying9 (HP1.out.below HB5.out).mem
  have v2 := conv_rd (P := Tryz.prog) Tryz.underlying22 Tryz.underlying5 Tryz.underlying9 (HP2.out.below HB5.out).mem
  have v3 := conv_rd (P := Tryz.prog) Tryz.underlying22 Tryz.underlying5 Tryz.underlying9 (HP1.out.below HB5.out).out
  have v4 := conv_rd (P := Tryz.prog) Tryz.underlying22 Tryz.underlying5 Tryz.underlying9 (HP2.out.below HB5.out).out
  go_wp2
  go_ret
  exact ⟨rfl, HB5.out⟩

/-- What Few tells. -/
structure FewS (s : Ps) : Prop where
  mem : s.mem.length ≤ 600
  data : s.data.length ≤ 40
  ret : s.ret.length ≤ 40
  ctl : s.ctl.length ≤ 200
  words : s.words.length ≤ 40
  spots : s.spots.length ≤ 100
  out : s.out.length ≤ 200

def FewR (s : Ps) (e : Ending) : Prop := ∃ b, e = .returned (.bool b) ∧ (b = true → FewS s)

set_option maxHeartbeats 2000000 in
theorem Few_any (q : Ad) (s : Ps) (w : World) (hp : RdP w q s) :
    Calls Tryz.prog 21 #[stV q s] w fun e w' => FewR s e ∧ Below w.heap.size w w' := by
  have HB0 := Lib.hid (below_lit w (.cells (stL q s).toArray 28))
  have HP := Lib.hid (hp.below HB0.out)
  have hle := hp.words.le
  have hcm := hp.words.cap
  unfold maxLen at hcm
  obtain ⟨W, hW⟩ : ∃ W, w.alloc (.cells #[.slice q.m s.mem.length q.mc, .slice q.d s.data.length q.dc, .slice q.r s.ret.length q.rc, .slice q.c s.ctl.length q.cc, .slice q.w s.words.length q.wc, .slice q.s s.spots.length q.sc, .slice q.o s.out.length q.oc, .int .i64 s.ip, .int .i64 s.here, .int .i64 s.pos, .int .i64 s.tok, .int .i64 s.inp, .int .i64 s.err, .bool s.comp, .bool s.halt] 28) = W := ⟨_, rfl⟩
  have HG : Hid (Bx W w.heap.size 28 (stL q s)) := Lib.hid (by rw [← hW]; exact Bx.new w _ _ _ _ rfl rfl)
  have HB : Hid (Below w.heap.size w W) := Lib.hid (by rw [← hW]; exact HB0.out)
  have HPP : Hid (RdP W q s) := Lib.hid (by rw [← hW]; exact HP.out)
  have HWW := Lib.hid hW
  clear hp hW HP HB0
  rw [stV_eq q s]
  go_enter Tryz.func21, Tryz.ntmps21
  go_wp2_with fail
  rw [HWW.out]
  obtain ⟨n, hn⟩ : ∃ n, s.words.length = n := ⟨_, rfl⟩
  have HN := Lib.hid hn
  rw [hn] at hle
  clear hn
  obtain ⟨c0, c1, c2, c3, c4, c5, c6, _⟩ := HG.out.st15
  rw [HN.out] at c4
  go_loopw [3] (fun y wi => ∃ k : Nat, y = .int .i64 k ∧ k ≤ n ∧ wi = W) (fun y _ => n - (intOf y).toNat)
  case atStart => exact ⟨0, rfl, by omega, rfl⟩
  case round =>
    obtain ⟨k, rfl, hk, rfl⟩ := hrel
    by_cases hlt : k < n
    · by_cases h41 : k < 41
      · obtain ⟨ad, had, hc⟩ := RdE.all encW_len (by decide) HPP.out.words (by rw [HN.out]; omega)
        have c4' := c4
        rw [had] at c4'
        have e0 := hc.at0 (show k < s.words.length by rw [HN.out]; exact hlt) (v := .string (s.words[k]!).nm) rfl
        obtain ⟨y, hy⟩ : ∃ y, (s.words[k]!).nm = y := ⟨_, rfl⟩
        rw [hy] at e0
        clear hc hy c4 had
        by_cases h60 : 60 < y.size
        · go_wp2
          go_ret
          exact ⟨⟨_, rfl, fun h => absurd h Bool.false_ne_true⟩, HB.out⟩
        · go_wp2
          go_roundw
          case rel => exact ⟨k + 1, by go_num, by omega, by trivial⟩
          case measure => simp [intOf] <;> omega
      · have c4' := c4
        go_wp2
        all_goals
          go_ret
          refine ⟨⟨_, rfl, fun hb => ?_⟩, HB.out⟩
          first
            | exact absurd hb Bool.false_ne_true
            | exact ⟨by omega, by omega, by omega, by omega, by have := HN.out; omega, by omega, by omega⟩
            | (simp at hb; exact ⟨by omega, by omega, by omega, by omega, by have := HN.out; omega, by omega, by omega⟩)
    · have c4' := c4
      go_wp2
      all_goals
        go_ret
        refine ⟨⟨_, rfl, fun hb => ?_⟩, HB.out⟩
        first
          | exact absurd hb Bool.false_ne_true
          | exact ⟨by omega, by omega, by omega, by omega, by have := HN.out; omega, by omega, by omega⟩
          | (simp at hb; exact ⟨by omega, by omega, by omega, by omega, by have := HN.out; omega, by omega, by omega⟩)
end Go.Proofs.YtappfhjknihboaaGreatDoor


/- Few, with the names' sizes; the reference's Few of layer 12. -/
namespace Go.Proofs.YtappfhjknihboaaGreatDoor
open Go.RowKit

theorem fewnames {l : List Wd} {k : Nat} (h : l.length ≤ k) (hk : ∀ j, j < k → (l[j]!).nm.size ≤ 60) : ∀ y ∈ l, y.nm.size ≤ 60 := by
  intro y hy
  obtain ⟨j, hj, rfl⟩ := List.mem_iff_getElem.1 hy
  have := hk j (by omega)
  rw [List.getElem!_eq_getElem?_getD, List.getElem?_eq_getElem hj] at this
  exact this
def FewNR (s : Ps) (e : Ending) : Prop := ∃ b, e = .returned (.bool b) ∧ (b = true → FewS s ∧ ∀ y ∈ s.words, y.nm.size ≤ 60)
set_option maxHeartbeats 2000000 in
theorem FewN_any (q : Ad) (s : Ps) (w : World) (hp : RdP w q s) :
    Calls Tryz.prog 21 #[stV q s] w fun e w' => FewNR s e ∧ Below w.heap.size w w' := by
  have HB0 := Lib.hid (below_lit w (.cells (stL q s).toArray 28))
  have HP := Lib.hid (hp.below HB0.out)
  have hle := hp.words.le
  have hcm := hp.words.cap
  unfold maxLen at hcm
  obtain ⟨W, hW⟩ : ∃ W, w.alloc (.cells #[.slice q.m s.mem.length q.mc, .slice q.d s.data.length q.dc, .slice q.r s.ret.length q.rc, .slice q.c s.ctl.length q.cc, .slice q.w s.words.length q.wc, .slice q.s s.spots.length q.sc, .slice q.o s.out.length q.oc, .int .i64 s.ip, .int .i64 s.here, .int .i64 s.pos, .int .i64 s.tok, .int .i64 s.inp, .int .i64 s.err, .bool s.comp, .bool s.halt] 28) = W := ⟨_, rfl⟩
  have HG : Hid (Bx W w.heap.size 28 (stL q s)) := Lib.hid (by rw [← hW]; exact Bx.new w _ _ _ _ rfl rfl)
  have HB : Hid (Below w.heap.size w W) := Lib.hid (by rw [← hW]; exact HB0.out)
  have HPP : Hid (RdP W q s) := Lib.hid (by rw [← hW]; exact HP.out)
  have HWW := Lib.hid hW
  clear hp hW HP HB0
  rw [stV_eq q s]
  go_enter Tryz.func21, Tryz.ntmps21
  go_wp2_with fail
  rw [HWW.out]
  obtain ⟨n, hn⟩ : ∃ n, s.words.length = n := ⟨_, rfl⟩
  have HN := Lib.hid hn
  rw [hn] at hle
  clear hn
  obtain ⟨c0, c1, c2, c3, c4, c5, c6, _⟩ := HG.out.st15
  rw [HN.out] at c4
  go_loopw [3] (fun y wi => ∃ k : Nat, y = .int .i64 k ∧ k ≤ n ∧ wi = W ∧ Hid (∀ j, j < k → (s.words[j]!).nm.size ≤ 60)) (fun y _ => n - (intOf y).toNat)
  case atStart => exact ⟨0, rfl, by omega, rfl, Lib.hid (fun j hj => by omega)⟩
  case round =>
    obtain ⟨k, rfl, hk, rfl, HJ⟩ := hrel
    by_cases hlt : k < n
    · by_cases h41 : k < 41
      · obtain ⟨ad, had, hc⟩ := RdE.all encW_len (by decide) HPP.out.words (by rw [HN.out]; omega)
        have c4' := c4
        rw [had] at c4'
        have e0 := hc.at0 (show k < s.words.length by rw [HN.out]; exact hlt) (v := .string (s.words[k]!).nm) rfl
        obtain ⟨y, hy⟩ : ∃ y, (s.words[k]!).nm = y := ⟨_, rfl⟩
        rw [hy] at e0
        have HY := Lib.hid hy
        clear hc hy c4 had
        by_cases h60 : 60 < y.size
        · go_wp2
          go_ret
          exact ⟨⟨_, rfl, fun h => absurd h Bool.false_ne_true⟩, HB.out⟩
        · go_wp2
          go_roundw
          case rel => exact ⟨k + 1, by go_num, by omega, by trivial, Lib.hid (fun j hj => by
            by_cases hjk : j < k
            · exact HJ.out j hjk
            · obtain rfl : j = k := by omega
              rw [HY.out]
              omega)⟩
          case measure => simp [intOf] <;> omega
      · have c4' := c4
        go_wp2
        all_goals
          go_ret
          refine ⟨⟨_, rfl, fun hb => ?_⟩, HB.out⟩
          first
            | exact absurd hb Bool.false_ne_true
            | exact ⟨⟨by omega, by omega, by omega, by omega, by have := HN.out; omega, by omega, by omega⟩, fewnames (by rw [HN.out]; omega) HJ.out⟩
            | (simp at hb; exact ⟨⟨by omega, by omega, by omega, by omega, by have := HN.out; omega, by omega, by omega⟩, fewnames (by rw [HN.out]; omega) HJ.out⟩)
    · have c4' := c4
      go_wp2
      all_goals
        go_ret
        refine ⟨⟨_, rfl, fun hb => ?_⟩, HB.out⟩
        first
          | exact absurd hb Bool.false_ne_true
          | exact ⟨⟨by omega, by omega, by omega, by omega, by have := HN.out; omega, by omega, by omega⟩, fewnames (by rw [HN.out]; omega) HJ.out⟩
          | (simp at hb; exact ⟨⟨by omega, by omega, by omega, by omega, by have := HN.out; omega, by omega, by omega⟩, fewnames (by rw [HN.out]; omega) HJ.out⟩)

structure FewT (s : Ps) (x : Sx) : Prop where
  few : FewS s
  nms : ∀ y ∈ s.words, y.nm.size ≤ 60
  src : x.src.size ≤ 200
  inp : x.iN ≤ 40
def FewTR (s : Ps) (x : Sx) (e : Ending) : Prop := ∃ b, e = .returned (.bool b) ∧ (b = true → FewT s x)
set_option maxHeartbeats 2000000 in
theorem Few12_any (q : Ad) (s : Ps) (x : Sx) (w : World) (hp : RdP w q s) :
    Calls Tryz.prog 9 #[stV q s, suV x] w fun e w' => FewTR s x e ∧ Below w.heap.size w w' := by
  have hB0 := below_two (below_lit w (.cells (stL q s).toArray 28)) (below_lit _ (.cells (suL x).toArray 30))
  have hS : Bx ((w.alloc (.cells (stL q s).toArray 28)).alloc (.cells (suL x).toArray 30)) w.heap.size 28 (stL q s) := (Bx.new w _ _ _ _ rfl rfl).alloc _
  have hX : Bx ((w.alloc (.cells (stL q s).toArray 28)).alloc (.cells (suL x).toArray 30)) (w.heap.size + 1) 30 (suL x) := Bx.new _ _ _ _ _ (by simp) rfl
  obtain ⟨W, hW⟩ : ∃ W, (w.alloc (.cells #[.slice q.m s.mem.length q.mc, .slice q.d s.data.length q.dc, .slice q.r s.ret.length q.rc, .slice q.c s.ctl.length q.cc, .slice q.w s.words.length q.wc, .slice q.s s.spots.length q.sc, .slice q.o s.out.length q.oc, .int .i64 s.ip, .int .i64 s.here, .int .i64 s.pos, .int .i64 s.tok, .int .i64 s.inp, .int .i64 s.err, .bool s.comp, .bool s.halt] 28)).alloc (.cells #[.string x.src, .slice x.iA x.iN x.iC, .int .i64 x.size, .int .i64 x.depth, .int .i64 x.room] 30) = W := ⟨_, rfl⟩
  have HB0 : Hid (Below w.heap.size w W) := Lib.hid (by rw [← hW]; exact hB0)
  have HA0 : Hid (Bx W w.heap.size 28 (stL q s)) := Lib.hid (by rw [← hW]; exact hS)
  have HX0 : Hid (Bx W (w.heap.size + 1) 30 (suL x)) := Lib.hid (by rw [← hW]; exact hX)
  have HP := Lib.hid hp
  have HWW := Lib.hid hW
  clear hp hB0 hS hX hW
  rw [stV_eq q s, suV_eq x]
  go_enter Tryz.func9, Tryz.ntmps9
  go_upto_region 1 with fail
  rw [HWW.out]
  go_wp2_with (refine wp_loadS rfl 28 _ rfl w.heap.size rfl 28 _ _ HA0.out Tryz.underlying28 rfl 15 infoSt rfl ?_)
  refine (FewN_any q s W (HP.out.below HB0.out)).mono ?_
  rintro r w1 ⟨⟨b, rfl, hb⟩, hbl⟩
  have HB1 := Lib.hid (below_two HB0.out hbl)
  have x0 : w1.cell? ⟨w.heap.size + 1, 0, none⟩ = some (.string x.src) := (HX0.out.below hbl).cell 0
  have x1 : w1.cell? ⟨w.heap.size + 1, 1, none⟩ = some (.slice x.iA x.iN x.iC) := (HX0.out.below hbl).cell 1
  clear hbl
  cases b with
  | false =>
    go_wp2
    go_ret
    exact ⟨⟨_, rfl, fun h => absurd h Bool.false_ne_true⟩, HB1.out⟩
  | true =>
    obtain ⟨h1, h2⟩ := hb rfl
    have H1 := Lib.hid h1
    have H2 := Lib.hid h2
    clear hb h1 h2
    by_cases h200 : (x.src.size : Int) ≤ 200
    · by_cases h40 : (x.iN : Int) ≤ 40
      · go_wp2
        go_ret
        exact ⟨⟨_, rfl, fun _ => ⟨H1.out, H2.out, by omega, by omega⟩⟩, HB1.out⟩
      · go_wp2
        go_ret
        exact ⟨⟨_, rfl, fun h => absurd (of_decide_eq_true h) (by omega)⟩, HB1.out⟩
    · go_wp2
      go_ret
      exact ⟨⟨_, rfl, fun h => absurd h Bool.false_ne_true⟩, HB1.out⟩
end Go.Proofs.YtappfhjknihboaaGreatDoor
