
/- The reference's makes. -/
import Derived.Test.YtappfhjknihboaaGreatDoorRTickD
import Derived.Test.YtappfhjknihboaaGreatDoorREndD
namespace Go.Proofs.YtappfhjknihboaaGreatDoor
open Go.RowKit

/-- A state among results, a state, a filled box: with where its lists lie. -/
def LiesTo (q : Ad) (s : Ps) (B : Nat) (q2 : Ad) (s2 : Ps) : Prop := ∀ S : Nat → Prop, Lies q s S → Lies q2 s2 (fun b => S b ∨ B ≤ b)
def fTupL (q : Ad) (s : Ps) (B : Nat) (s' : Ps) (r : List Value) : Fact := fun γ v w => ∃ q2, v = .tuple (stV q2 s' :: r).toArray ∧ StR γ w q2 s' ∧ LiesTo q s B q2 s'
def fStL (q : Ad) (s : Ps) (B : Nat) (s' : Ps) : Fact := fun γ v w => ∃ q2, v = stV q2 s' ∧ StR γ w q2 s' ∧ LiesTo q s B q2 s'
def fSetL (q : Ad) (s : Ps) (B : Nat) (i : Nat) (t : TypeId) (s' : Ps) : Fact := fun γ _ w => ∃ q2, StR γ w q2 s' ∧ LiesTo q s B q2 s' ∧ SetR γ w i t (stL q2 s')
theorem stable_tupL (W : World) (q : Ad) (s : Ps) (B : Nat) (s' : Ps) (r : List Value) : Stable W (fTupL q s B s' r) := by
  rintro γ v w γ' w' hj ⟨q2, hv, h, hl⟩ he
  exact ⟨q2, hv, he.st h, hl⟩
theorem stable_stL (W : World) (q : Ad) (s : Ps) (B : Nat) (s' : Ps) : Stable W (fStL q s B s') := by
  rintro γ v w γ' w' hj ⟨q2, hv, h, hl⟩ he
  exact ⟨q2, hv, he.st h, hl⟩
theorem stable_setL (W : World) (q : Ad) (s : Ps) (B : Nat) (i : Nat) (t : TypeId) (s' : Ps) : Stable W (fSetL q s B i t s') := by
  rintro γ v w γ' w' hj ⟨q2, h, hl, hs⟩ he
  exact ⟨q2, he.st h, hl, he.filled hj hs⟩
theorem ixI_run (ad : Addr) (n c : Nat) (w : World) (h : 0 < n) : (Instr.indexAt 23 (.slice (some ad) n c) (.int .i64 0)).run Tryz.prog w = .ok (.pointer (some ad)) w := by
  have h1 : (0 : Int) < n := by omega
  go_simp
theorem b3_run (a b c : Int) (w : World) : (Instr.buildSlice 23 3 #[(0, .int .i64 a), (1, .int .i64 b), (2, .int .i64 c)]).run Tryz.prog w = .ok (.slice (some ⟨w.heap.size, 0, none⟩) 3 3) (w.alloc (.cells #[.int .i64 a, .int .i64 b, .int .i64 c] 3 (0, 0))) := by
  go_simp
theorem rpop_is (A : Option Addr) (c n : Nat) (l r1 r2 : List Int) (t : Int) (w : World) (hn : l.length = n) (h1 : L04.popR l 1 = r1) (h2 : L04.popT l 1 = r2) (ht : L04.popE l.length 1 = t) (hx : RdI w .i64 A c l) :
    Calls Tryz.prog 80 #[.slice A n c, .int .i64 1] w fun e w' => ∃ A1 c1 A2 c2, L04.PopAt A A1 A2 ∧ e = .returned (.tuple #[.slice A1 r1.length c1, .slice A2 r2.length c2, .int .i64 t]) ∧ RdI w' .i64 A1 c1 r1 ∧ RdI w' .i64 A2 c2 r2 ∧ Below w.heap.size w w' := by
  subst hn h1 h2 ht
  refine (L04.RPop1_any A c 1 l w hx (by decide)).mono ?_
  rintro e w' ⟨A1, c1, A2, c2, ha, rfl, h1, h2, k, rfl⟩
  exact ⟨A1, c1, A2, c2, ha, rfl, h1, h2, below_drewN w k⟩
theorem createD_no {x : Sx} {hid : Bool} {code : List Int} {s : Ps} {e : Int} (h : e ≠ 0) : (createD x hid code (s, e)).2 = e := by
  unfold createD makeD upD nameD thr
  simp only [h, if_false, false_and]
theorem fin_err' {y : Ps × Int} {e : Int} (h : y.2 = e) (he : e ≠ 0) : fin y = (zeroP, e) := by
  unfold fin
  rw [if_neg (by rw [h]; exact he), h]
theorem fin_zero_or {y : Ps × Int} {s : Ps} {e : Int} (h : fin y = (s, e)) : e = 0 ∨ s = zeroP := by
  unfold fin at h
  split at h
  · injection h with _ h2
    exact .inl h2.symm
  · injection h with h1 _
    exact .inr h1.symm
theorem fin_fin {y : Ps × Int} {s : Ps} {e : Int} (h : fin y = (s, e)) : e = y.2 := by
  have := fin_err y
  rw [h] at this
  exact this
set_option maxRecDepth 100000 in
set_option maxHeartbeats 4000000 in
theorem RMakes_110 (q : Ad) (s : Ps) (x : Sx) (s' : Ps) (e' : Int) (w : World) (hr : fin (colonD x (s, 0)) = (s', e')) (hp : RdP w q s) (hsz : x.src.size ≤ 200) (hz : SzD s) (h0 : -9223372036854775808 ≤ s.here) (h1 : s.here ≤ 9223372036854775807) :
    Calls Tryz.prog 26 #[stV q s, suV x, .int .i64 110] w fun e w' => ∃ q', e = .returned (.tuple #[stV q' s', .int .i64 e', .bool true]) ∧ Res w.heap.size q s w' q' s' ∧ Below w.heap.size w w' := by
  have HR := Lib.hid hr
  have HZ := Lib.hid hz
  have HH := Lib.hid (And.intro h0 h1)
  clear hr hz h0 h1
  obtain ⟨s2, e2, h2⟩ : ∃ a b, fin (createD x true [] (s, 0)) = (a, b) := ⟨_, _, rfl⟩
  have hs' : s' = { s2 with comp := decide (e2 = 0) } ∧ e' = e2 := by
    have hr := HR.out
    unfold colonD compD at hr
    obtain ⟨a, b, hab⟩ : ∃ a b, createD x true [] (s, 0) = (a, b) := ⟨_, _, rfl⟩
    rw [hab] at h2 hr
    unfold fin at h2 hr
    by_cases hb : b = 0
    · subst hb
      rw [if_pos rfl] at h2 hr
      injection h2 with ha1 ha2
      injection hr with hb1 hb2
      rw [← ha1, ← ha2, ← hb1, ← hb2]
      exact ⟨rfl, rfl⟩
    · rw [if_neg hb] at h2 hr
      injection h2 with ha1 ha2
      injection hr with hb1 hb2
      rw [← ha1, ← ha2, ← hb1, ← hb2, decide_eq_false hb]
      exact ⟨rfl, rfl⟩
  obtain ⟨hs1, rfl⟩ := hs'
  have HS1 := Lib.hid hs1
  have H2 := Lib.hid h2
  clear h2 hs1 HR
  have hB0 := below_two (below_two (below_lit w (.cells (stL q s).toArray 28)) (below_lit _ (.cells (suL x).toArray 30))) (below_lit _ (.cells (stL nilA zeroP).toArray 28))
  have hS : Bx (((w.alloc (.cells (stL q s).toArray 28)).alloc (.cells (suL x).toArray 30)).alloc (.cells (stL nilA zeroP).toArray 28)) w.heap.size 28 (stL q s) := ((Bx.new w _ _ _ _ rfl rfl).alloc _).alloc _
  have hX : Bx (((w.alloc (.cells (stL q s).toArray 28)).alloc (.cells (suL x).toArray 30)).alloc (.cells (stL nilA zeroP).toArray 28)) (w.heap.size + 1) 30 (suL x) := (Bx.new _ _ _ _ _ (by simp) rfl).alloc _
  have hR : Bx (((w.alloc (.cells (stL q s).toArray 28)).alloc (.cells (suL x).toArray 30)).alloc (.cells (stL nilA zeroP).toArray 28)) (w.heap.size + 2) 28 (stL nilA zeroP) := Bx.new _ _ _ _ _ (by simp) rfl
  obtain ⟨W, hW⟩ : ∃ W, (((w.alloc (.cells #[.slice q.m s.mem.length q.mc, .slice q.d s.data.length q.dc, .slice q.r s.ret.length q.rc, .slice q.c s.ctl.length q.cc, .slice q.w s.words.length q.wc, .slice q.s s.spots.length q.sc, .slice q.o s.out.length q.oc, .int .i64 s.ip, .int .i64 s.here, .int .i64 s.pos, .int .i64 s.tok, .int .i64 s.inp, .int .i64 s.err, .bool s.comp, .bool s.halt] 28)).alloc (.cells #[.string x.src, .slice x.iA x.iN x.iC, .int .i64 x.size, .int .i64 x.depth, .int .i64 x.room] 30)).alloc (.cells #[.slice none 0 0, .slice none 0 0, .slice none 0 0, .slice none 0 0, .slice none 0 0, .slice none 0 0, .slice none 0 0, .int .i64 0, .int .i64 0, .int .i64 0, .int .i64 0, .int .i64 0, .int .i64 0, .bool false, .bool false] 28)) = W := ⟨_, rfl⟩
  have HB0 : Hid (Below w.heap.size w W) := Lib.hid (by rw [← hW]; exact hB0)
  have HA0 : Hid (Bx W w.heap.size 28 (stL q s)) := Lib.hid (by rw [← hW]; exact hS)
  have HX0 : Hid (Bx W (w.heap.size + 1) 30 (suL x)) := Lib.hid (by rw [← hW]; exact hX)
  have HR0 : Hid (Bx W (w.heap.size + 2) 28 (stL nilA zeroP)) := Lib.hid (by rw [← hW]; exact hR)
  have HP : Hid (RdP w q s) := Lib.hid hp
  have HWW := Lib.hid hW
  clear hp hB0 hS hX hR hW
  rw [stV_eq q s, suV_eq x]
  go_enter Tryz.func26, Tryz.ntmps26
  go_upto_region 1 with fail
  rw [HWW.out]
  have hW2 : w.heap.size + 2 < W.heap.size := HR0.out.lt
  go_wp2_with (first
    | (refine wp_loadS rfl 28 _ rfl w.heap.size rfl 28 _ _ HA0.out Tryz.underlying28 rfl 15 infoSt rfl ?_)
    | (refine wp_loadS rfl 30 _ rfl (w.heap.size + 1) rfl 30 _ _ HX0.out Tryz.underlying30 rfl 5 infoSx rfl ?_))
  refine (RCreate_go q s x true none 0 0 [] s2 e' W rfl H2.out (HP.out.below HB0.out) (rd_nilI W) hsz (by have := HZ.out.mem; omega) (by have := HZ.out.spots; omega) (by have := HZ.out.words; omega) (by decide) HH.out.1 HH.out.2).mono ?_
  rintro r w3 ⟨q3, rfl, hres, hb⟩
  have HRES : Hid (Res W.heap.size q s w3 q3 s2) := Lib.hid (hres.mono (by simp))
  have HB3 := Lib.hid (below_two HB0.out hb)
  have HR3 := Lib.hid (HR0.out.below hb)
  clear hres hb
  have hw3 : w.heap.size + 2 < w3.heap.size := HR3.out.lt
  have HBL := Lib.hid (below_lit w3 (.cells (stL nilA zeroP).toArray 28))
  have HBX : Hid (Bx (w3.alloc (.cells (stL nilA zeroP).toArray 28)) w3.heap.size 28 (stL nilA zeroP)) := Lib.hid (Bx.new w3 _ _ _ _ rfl rfl)
  go_wp2_with (refine wp_storeS rfl 28 _ _ rfl w3.heap.size (stL q3 s2) rfl rfl 28 (stL nilA zeroP) HBX.out 15 infoSt rfl rfl (stL_one _ _) ?_)
  intro w5 hg5 hw5
  obtain ⟨g, hg⟩ : ∃ g, w3.heap.size = g := ⟨_, rfl⟩
  have HG5 : Hid (Bx w5 g 28 (stL q3 s2)) := Lib.hid (by rw [← hg]; exact hg5)
  have HB5 := Lib.hid (below_grown (below_two HB3.out HBL.out) (below_two HB3.out HBL.out).size hw5 (by omega))
  have HR5 := Lib.hid ((HR3.out.below HBL.out).grown hw5 (by omega))
  have HP5 : Hid (RdP w5 q3 s2) := Lib.hid ((HRES.out.rd.below HBL.out).grown HRES.out.rd.lies hw5 (by omega))
  have hw35 : w3.heap.size ≤ w5.heap.size := Nat.le_trans HBL.out.size hw5.size
  have HLT0 : Hid (Lies q3 s2 (fun b => b ≠ g)) := Lib.hid (HRES.out.rd.lies.mono (fun b hb => by omega))
  rw [hg]
  rw [hg] at hw3
  clear hg5 hw5 hg HBX HBL
  have HLT : Hid (Lies q3 s2 (fun b => b ≠ g)) := Lib.hid HLT0.out
  go_wp2_with (refine wp_storeF rfl 4 _ _ rfl g 13 _ rfl rfl rfl 28 _ HG5.out 15 rfl (by decide) info1b ?_)
  intro w7 hg7 hw7
  have HG7 : Hid (Bx w7 g 28 (stL q3 s')) := Lib.hid (by rw [HS1.out]; exact hg7)
  have HB7 := Lib.hid (below_grown HB5.out HB5.out.size hw7 (by omega))
  have HR7 := Lib.hid (HR5.out.grown hw7 (by omega))
  have HLL : Hid (∀ S : Nat → Prop, Lies q s S → Lies q3 s' (fun b => S b ∨ W.heap.size ≤ b)) := Lib.hid (fun S hS => by rw [HS1.out]; exact (HRES.out.lies S hS).withComp _)
  have HP7 : Hid (RdP w7 q3 s') := Lib.hid (by
    rw [HS1.out]
    exact (HP5.out.grown HLT.out hw7 (by omega)).withComp _)
  clear hg7 hw7
  go_wp2_with (first
    | (refine wp_loadS rfl 28 _ rfl g rfl 28 _ _ HG7.out Tryz.underlying28 rfl 15 infoSt rfl ?_)
    | (refine wp_storeS rfl 28 _ _ rfl (w.heap.size + 2) (stL q3 s') rfl rfl 28 _ HR7.out 15 infoSt rfl rfl (stL_one _ _) ?_))
  intro w6 hg6 hw6
  have HG := Lib.hid hg6
  have HB6 := Lib.hid (below_grown HB7.out HB7.out.size hw6 (by omega))
  have HP6 := Lib.hid (HP7.out.grown (HLL.out _ HP.out.lies) hw6 (by omega))
  have HL6 : Hid (∀ S : Nat → Prop, Lies q s S → Lies q3 s' (fun b => S b ∨ w.heap.size ≤ b)) := Lib.hid (fun S hS => (HLL.out S hS).mono (fun b hb => hb.imp id (fun h => by omega)))
  clear hg6 hw6
  go_wp2
  refine bodyPost_ret (results_S3 rfl _ _ (w.heap.size + 2) 28 (stL q3 s') _ rfl HG.out Tryz.underlying28 rfl 15 infoSt rfl _ _ rfl rfl) rfl ?_
  exact ⟨q3, rfl, ⟨HP6.out, HL6.out⟩, HB6.out⟩
set_option maxRecDepth 100000 in
set_option maxHeartbeats 4000000 in
theorem RMakes_111 (q : Ad) (s : Ps) (x : Sx) (s' : Ps) (e' : Int) (w : World) (hr : fin (endD (s, 0)) = (s', e')) (hp : RdP w q s) (_hsz : x.src.size ≤ 200) (hz : SzD s) (h0 : -9223372036854775808 ≤ s.here) (h1 : s.here ≤ 9223372036854775807) :
    Calls Tryz.prog 26 #[stV q s, suV x, .int .i64 111] w fun e w' => ∃ q', e = .returned (.tuple #[stV q' s', .int .i64 e', .bool true]) ∧ Res w.heap.size q s w' q' s' ∧ Below w.heap.size w w' := by
  have HR := Lib.hid hr
  have HZ := Lib.hid hz
  have HH := Lib.hid (And.intro h0 h1)
  clear hr hz h0 h1
  have hB0 := below_two (below_two (below_lit w (.cells (stL q s).toArray 28)) (below_lit _ (.cells (suL x).toArray 30))) (below_lit _ (.cells (stL nilA zeroP).toArray 28))
  have hS : Bx (((w.alloc (.cells (stL q s).toArray 28)).alloc (.cells (suL x).toArray 30)).alloc (.cells (stL nilA zeroP).toArray 28)) w.heap.size 28 (stL q s) := ((Bx.new w _ _ _ _ rfl rfl).alloc _).alloc _
  have hX : Bx (((w.alloc (.cells (stL q s).toArray 28)).alloc (.cells (suL x).toArray 30)).alloc (.cells (stL nilA zeroP).toArray 28)) (w.heap.size + 1) 30 (suL x) := (Bx.new _ _ _ _ _ (by simp) rfl).alloc _
  have hR : Bx (((w.alloc (.cells (stL q s).toArray 28)).alloc (.cells (suL x).toArray 30)).alloc (.cells (stL nilA zeroP).toArray 28)) (w.heap.size + 2) 28 (stL nilA zeroP) := Bx.new _ _ _ _ _ (by simp) rfl
  obtain ⟨W, hW⟩ : ∃ W, (((w.alloc (.cells #[.slice q.m s.mem.length q.mc, .slice q.d s.data.length q.dc, .slice q.r s.ret.length q.rc, .slice q.c s.ctl.length q.cc, .slice q.w s.words.length q.wc, .slice q.s s.spots.length q.sc, .slice q.o s.out.length q.oc, .int .i64 s.ip, .int .i64 s.here, .int .i64 s.pos, .int .i64 s.tok, .int .i64 s.inp, .int .i64 s.err, .bool s.comp, .bool s.halt] 28)).alloc (.cells #[.string x.src, .slice x.iA x.iN x.iC, .int .i64 x.size, .int .i64 x.depth, .int .i64 x.room] 30)).alloc (.cells #[.slice none 0 0, .slice none 0 0, .slice none 0 0, .slice none 0 0, .slice none 0 0, .slice none 0 0, .slice none 0 0, .int .i64 0, .int .i64 0, .int .i64 0, .int .i64 0, .int .i64 0, .int .i64 0, .bool false, .bool false] 28)) = W := ⟨_, rfl⟩
  have HB0 : Hid (Below w.heap.size w W) := Lib.hid (by rw [← hW]; exact hB0)
  have HA0 : Hid (Bx W w.heap.size 28 (stL q s)) := Lib.hid (by rw [← hW]; exact hS)
  have HX0 : Hid (Bx W (w.heap.size + 1) 30 (suL x)) := Lib.hid (by rw [← hW]; exact hX)
  have HR0 : Hid (Bx W (w.heap.size + 2) 28 (stL nilA zeroP)) := Lib.hid (by rw [← hW]; exact hR)
  have HP : Hid (RdP w q s) := Lib.hid hp
  have HWW := Lib.hid hW
  clear hp hB0 hS hX hR hW
  rw [stV_eq q s, suV_eq x]
  go_enter Tryz.func26, Tryz.ntmps26
  go_upto_region 1 with fail
  rw [HWW.out]
  have hW2 : w.heap.size + 2 < W.heap.size := HR0.out.lt
  go_wp2_with (first
    | (refine wp_loadS rfl 28 _ rfl w.heap.size rfl 28 _ _ HA0.out Tryz.underlying28 rfl 15 infoSt rfl ?_)
    | (refine wp_loadS rfl 30 _ rfl (w.heap.size + 1) rfl 30 _ _ HX0.out Tryz.underlying30 rfl 5 infoSx rfl ?_))
  refine (REnd_go q s s' e' W HR.out (HP.out.below HB0.out) (by have := HZ.out.mem; omega) (by have := HZ.out.spots; omega) (by have := HZ.out.words; omega)).mono ?_
  rintro r w3 ⟨q3, rfl, hres, hb⟩
  have HRES : Hid (Res W.heap.size q s w3 q3 s') := Lib.hid (hres.mono (by simp))
  have HB3 := Lib.hid (below_two HB0.out hb)
  have HR3 := Lib.hid (HR0.out.below hb)
  clear hres hb
  have hw3 : w.heap.size + 2 < w3.heap.size := HR3.out.lt
  have HBL := Lib.hid (below_lit w3 (.cells (stL nilA zeroP).toArray 28))
  have HBX : Hid (Bx (w3.alloc (.cells (stL nilA zeroP).toArray 28)) w3.heap.size 28 (stL nilA zeroP)) := Lib.hid (Bx.new w3 _ _ _ _ rfl rfl)
  go_wp2_with (refine wp_storeS rfl 28 _ _ rfl w3.heap.size (stL q3 s') rfl rfl 28 (stL nilA zeroP) HBX.out 15 infoSt rfl rfl (stL_one _ _) ?_)
  intro w5 hg5 hw5
  obtain ⟨g, hg⟩ : ∃ g, w3.heap.size = g := ⟨_, rfl⟩
  have HG5 : Hid (Bx w5 g 28 (stL q3 s')) := Lib.hid (by rw [← hg]; exact hg5)
  have HB5 := Lib.hid (below_grown (below_two HB3.out HBL.out) (below_two HB3.out HBL.out).size hw5 (by omega))
  have HR5 := Lib.hid ((HR3.out.below HBL.out).grown hw5 (by omega))
  have HP5 : Hid (RdP w5 q3 s') := Lib.hid ((HRES.out.rd.below HBL.out).grown HRES.out.rd.lies hw5 (by omega))
  have hw35 : w3.heap.size ≤ w5.heap.size := Nat.le_trans HBL.out.size hw5.size
  rw [hg]
  rw [hg] at hw3
  clear hg5 hw5 hg HBX HBL
  go_wp2_with (first
    | (refine wp_loadS rfl 28 _ rfl g rfl 28 _ _ HG5.out Tryz.underlying28 rfl 15 infoSt rfl ?_)
    | (refine wp_storeS rfl 28 _ _ rfl (w.heap.size + 2) (stL q3 s') rfl rfl 28 _ HR5.out 15 infoSt rfl rfl (stL_one _ _) ?_))
  intro w6 hg6 hw6
  have HG := Lib.hid hg6
  have HB6 := Lib.hid (below_grown HB5.out HB5.out.size hw6 (by omega))
  have HP6 := Lib.hid (HP5.out.grown (HRES.out.lies _ HP.out.lies) hw6 (by omega))
  have HL6 : Hid (∀ S : Nat → Prop, Lies q s S → Lies q3 s' (fun b => S b ∨ w.heap.size ≤ b)) := Lib.hid (fun S hS => (HRES.out.lies S hS).mono (fun b hb => hb.imp id (fun h => by omega)))
  clear hg6 hw6
  go_wp2
  refine bodyPost_ret (results_S3 rfl _ _ (w.heap.size + 2) 28 (stL q3 s') _ rfl HG.out Tryz.underlying28 rfl 15 infoSt rfl _ _ rfl rfl) rfl ?_
  exact ⟨q3, rfl, ⟨HP6.out, HL6.out⟩, HB6.out⟩
set_option maxRecDepth 100000 in
set_option maxHeartbeats 4000000 in
theorem RMakes_115 (q : Ad) (s : Ps) (x : Sx) (s' : Ps) (e' : Int) (w : World) (hr : fin (creaD x (s, 0)) = (s', e')) (hp : RdP w q s) (hsz : x.src.size ≤ 200) (hz : SzD s) (h0 : -9223372036854775808 ≤ s.here) (h1 : s.here ≤ 9223372036854775807) :
    Calls Tryz.prog 26 #[stV q s, suV x, .int .i64 115] w fun e w' => ∃ q', e = .returned (.tuple #[stV q' s', .int .i64 e', .bool true]) ∧ Res w.heap.size q s w' q' s' ∧ Below w.heap.size w w' := by
  have HR := Lib.hid hr
  have HZ := Lib.hid hz
  have HH := Lib.hid (And.intro h0 h1)
  clear hr hz h0 h1
  have hB0 := below_two (below_two (below_lit w (.cells (stL q s).toArray 28)) (below_lit _ (.cells (suL x).toArray 30))) (below_lit _ (.cells (stL nilA zeroP).toArray 28))
  have hS : Bx (((w.alloc (.cells (stL q s).toArray 28)).alloc (.cells (suL x).toArray 30)).alloc (.cells (stL nilA zeroP).toArray 28)) w.heap.size 28 (stL q s) := ((Bx.new w _ _ _ _ rfl rfl).alloc _).alloc _
  have hX : Bx (((w.alloc (.cells (stL q s).toArray 28)).alloc (.cells (suL x).toArray 30)).alloc (.cells (stL nilA zeroP).toArray 28)) (w.heap.size + 1) 30 (suL x) := (Bx.new _ _ _ _ _ (by simp) rfl).alloc _
  have hR : Bx (((w.alloc (.cells (stL q s).toArray 28)).alloc (.cells (suL x).toArray 30)).alloc (.cells (stL nilA zeroP).toArray 28)) (w.heap.size + 2) 28 (stL nilA zeroP) := Bx.new _ _ _ _ _ (by simp) rfl
  obtain ⟨W, hW⟩ : ∃ W, (((w.alloc (.cells #[.slice q.m s.mem.length q.mc, .slice q.d s.data.length q.dc, .slice q.r s.ret.length q.rc, .slice q.c s.ctl.length q.cc, .slice q.w s.words.length q.wc, .slice q.s s.spots.length q.sc, .slice q.o s.out.length q.oc, .int .i64 s.ip, .int .i64 s.here, .int .i64 s.pos, .int .i64 s.tok, .int .i64 s.inp, .int .i64 s.err, .bool s.comp, .bool s.halt] 28)).alloc (.cells #[.string x.src, .slice x.iA x.iN x.iC, .int .i64 x.size, .int .i64 x.depth, .int .i64 x.room] 30)).alloc (.cells #[.slice none 0 0, .slice none 0 0, .slice none 0 0, .slice none 0 0, .slice none 0 0, .slice none 0 0, .slice none 0 0, .int .i64 0, .int .i64 0, .int .i64 0, .int .i64 0, .int .i64 0, .int .i64 0, .bool false, .bool false] 28)) = W := ⟨_, rfl⟩
  have HB0 : Hid (Below w.heap.size w W) := Lib.hid (by rw [← hW]; exact hB0)
  have HA0 : Hid (Bx W w.heap.size 28 (stL q s)) := Lib.hid (by rw [← hW]; exact hS)
  have HX0 : Hid (Bx W (w.heap.size + 1) 30 (suL x)) := Lib.hid (by rw [← hW]; exact hX)
  have HR0 : Hid (Bx W (w.heap.size + 2) 28 (stL nilA zeroP)) := Lib.hid (by rw [← hW]; exact hR)
  have HP : Hid (RdP w q s) := Lib.hid hp
  have HWW := Lib.hid hW
  clear hp hB0 hS hX hR hW
  rw [stV_eq q s, suV_eq x]
  go_enter Tryz.func26, Tryz.ntmps26
  go_upto_region 1 with fail
  rw [HWW.out]
  have hW2 : w.heap.size + 2 < W.heap.size := HR0.out.lt
  go_wp2_with (first
    | (refine wp_loadS rfl 28 _ rfl w.heap.size rfl 28 _ _ HA0.out Tryz.underlying28 rfl 15 infoSt rfl ?_)
    | (refine wp_loadS rfl 30 _ rfl (w.heap.size + 1) rfl 30 _ _ HX0.out Tryz.underlying30 rfl 5 infoSx rfl ?_))
  refine (RCreate_go q s x false (some ⟨W.heap.size, 0, none⟩) 2 2 [8, 0] s' e' _ rfl HR.out ((HP.out.below HB0.out).below (below_lit _ _)) (rd_two W 8 0) hsz (by have := HZ.out.mem; omega) (by have := HZ.out.spots; omega) (by have := HZ.out.words; omega) (by decide) HH.out.1 HH.out.2).mono ?_
  rintro r w3 ⟨q3, rfl, hres, hb⟩
  have hb := below_two (below_lit _ _) hb
  have HRES : Hid (Res W.heap.size q s w3 q3 s') := Lib.hid (hres.mono (by simp))
  have HB3 := Lib.hid (below_two HB0.out hb)
  have HR3 := Lib.hid (HR0.out.below hb)
  clear hres hb
  have hw3 : w.heap.size + 2 < w3.heap.size := HR3.out.lt
  have HBL := Lib.hid (below_lit w3 (.cells (stL nilA zeroP).toArray 28))
  have HBX : Hid (Bx (w3.alloc (.cells (stL nilA zeroP).toArray 28)) w3.heap.size 28 (stL nilA zeroP)) := Lib.hid (Bx.new w3 _ _ _ _ rfl rfl)
  go_wp2_with (refine wp_storeS rfl 28 _ _ rfl w3.heap.size (stL q3 s') rfl rfl 28 (stL nilA zeroP) HBX.out 15 infoSt rfl rfl (stL_one _ _) ?_)
  intro w5 hg5 hw5
  obtain ⟨g, hg⟩ : ∃ g, w3.heap.size = g := ⟨_, rfl⟩
  have HG5 : Hid (Bx w5 g 28 (stL q3 s')) := Lib.hid (by rw [← hg]; exact hg5)
  have HB5 := Lib.hid (below_grown (below_two HB3.out HBL.out) (below_two HB3.out HBL.out).size hw5 (by omega))
  have HR5 := Lib.hid ((HR3.out.below HBL.out).grown hw5 (by omega))
  have HP5 : Hid (RdP w5 q3 s') := Lib.hid ((HRES.out.rd.below HBL.out).grown HRES.out.rd.lies hw5 (by omega))
  have hw35 : w3.heap.size ≤ w5.heap.size := Nat.le_trans HBL.out.size hw5.size
  rw [hg]
  rw [hg] at hw3
  clear hg5 hw5 hg HBX HBL
  go_wp2_with (first
    | (refine wp_loadS rfl 28 _ rfl g rfl 28 _ _ HG5.out Tryz.underlying28 rfl 15 infoSt rfl ?_)
    | (refine wp_storeS rfl 28 _ _ rfl (w.heap.size + 2) (stL q3 s') rfl rfl 28 _ HR5.out 15 infoSt rfl rfl (stL_one _ _) ?_))
  intro w6 hg6 hw6
  have HG := Lib.hid hg6
  have HB6 := Lib.hid (below_grown HB5.out HB5.out.size hw6 (by omega))
  have HP6 := Lib.hid (HP5.out.grown (HRES.out.lies _ HP.out.lies) hw6 (by omega))
  have HL6 : Hid (∀ S : Nat → Prop, Lies q s S → Lies q3 s' (fun b => S b ∨ w.heap.size ≤ b)) := Lib.hid (fun S hS => (HRES.out.lies S hS).mono (fun b hb => hb.imp id (fun h => by omega)))
  clear hg6 hw6
  go_wp2
  refine bodyPost_ret (results_S3 rfl _ _ (w.heap.size + 2) 28 (stL q3 s') _ rfl HG.out Tryz.underlying28 rfl 15 infoSt rfl _ _ rfl rfl) rfl ?_
  exact ⟨q3, rfl, ⟨HP6.out, HL6.out⟩, HB6.out⟩
set_option maxRecDepth 100000 in
set_option maxHeartbeats 4000000 in
theorem RMakes_117 (q : Ad) (s : Ps) (x : Sx) (s' : Ps) (e' : Int) (w : World) (hr : fin (markD x (s, 0)) = (s', e')) (hp : RdP w q s) (hsz : x.src.size ≤ 200) (hz : SzD s) (h0 : -9223372036854775808 ≤ s.here) (h1 : s.here ≤ 9223372036854775807) :
    Calls Tryz.prog 26 #[stV q s, suV x, .int .i64 117] w fun e w' => ∃ q', e = .returned (.tuple #[stV q' s', .int .i64 e', .bool true]) ∧ Res w.heap.size q s w' q' s' ∧ Below w.heap.size w w' := by
  have HR := Lib.hid hr
  have HZ := Lib.hid hz
  have HH := Lib.hid (And.intro h0 h1)
  clear hr hz h0 h1
  obtain ⟨n, hn⟩ : ∃ n, s.words.length = n := ⟨_, rfl⟩
  have HN := Lib.hid hn
  have HR1 : Hid (fin (createD x false [11, (n : Int)] (s, 0)) = (s', e')) := Lib.hid (by rw [← hn]; exact HR.out)
  clear hn HR
  have hB0 := below_two (below_two (below_lit w (.cells (stL q s).toArray 28)) (below_lit _ (.cells (suL x).toArray 30))) (below_lit _ (.cells (stL nilA zeroP).toArray 28))
  have hS : Bx (((w.alloc (.cells (stL q s).toArray 28)).alloc (.cells (suL x).toArray 30)).alloc (.cells (stL nilA zeroP).toArray 28)) w.heap.size 28 (stL q s) := ((Bx.new w _ _ _ _ rfl rfl).alloc _).alloc _
  have hX : Bx (((w.alloc (.cells (stL q s).toArray 28)).alloc (.cells (suL x).toArray 30)).alloc (.cells (stL nilA zeroP).toArray 28)) (w.heap.size + 1) 30 (suL x) := (Bx.new _ _ _ _ _ (by simp) rfl).alloc _
  have hR : Bx (((w.alloc (.cells (stL q s).toArray 28)).alloc (.cells (suL x).toArray 30)).alloc (.cells (stL nilA zeroP).toArray 28)) (w.heap.size + 2) 28 (stL nilA zeroP) := Bx.new _ _ _ _ _ (by simp) rfl
  obtain ⟨W, hW⟩ : ∃ W, (((w.alloc (.cells #[.slice q.m s.mem.length q.mc, .slice q.d s.data.length q.dc, .slice q.r s.ret.length q.rc, .slice q.c s.ctl.length q.cc, .slice q.w s.words.length q.wc, .slice q.s s.spots.length q.sc, .slice q.o s.out.length q.oc, .int .i64 s.ip, .int .i64 s.here, .int .i64 s.pos, .int .i64 s.tok, .int .i64 s.inp, .int .i64 s.err, .bool s.comp, .bool s.halt] 28)).alloc (.cells #[.string x.src, .slice x.iA x.iN x.iC, .int .i64 x.size, .int .i64 x.depth, .int .i64 x.room] 30)).alloc (.cells #[.slice none 0 0, .slice none 0 0, .slice none 0 0, .slice none 0 0, .slice none 0 0, .slice none 0 0, .slice none 0 0, .int .i64 0, .int .i64 0, .int .i64 0, .int .i64 0, .int .i64 0, .int .i64 0, .bool false, .bool false] 28)) = W := ⟨_, rfl⟩
  have HB0 : Hid (Below w.heap.size w W) := Lib.hid (by rw [← hW]; exact hB0)
  have HA0 : Hid (Bx W w.heap.size 28 (stL q s)) := Lib.hid (by rw [← hW]; exact hS)
  have HX0 : Hid (Bx W (w.heap.size + 1) 30 (suL x)) := Lib.hid (by rw [← hW]; exact hX)
  have HR0 : Hid (Bx W (w.heap.size + 2) 28 (stL nilA zeroP)) := Lib.hid (by rw [← hW]; exact hR)
  have HP : Hid (RdP w q s) := Lib.hid hp
  have HWW := Lib.hid hW
  clear hp hB0 hS hX hR hW
  rw [stV_eq q s, suV_eq x]
  go_enter Tryz.func26, Tryz.ntmps26
  go_upto_region 1 with fail
  rw [HWW.out]
  have hW2 : w.heap.size + 2 < W.heap.size := HR0.out.lt
  have c4 : W.cell? ⟨w.heap.size, 4, none⟩ = some (.slice q.w n q.wc) := by have h := HA0.out.cell 4; rw [← HN.out]; exact h
  go_wp2_with (first
    | (refine wp_loadS rfl 28 _ rfl w.heap.size rfl 28 _ _ HA0.out Tryz.underlying28 rfl 15 infoSt rfl ?_)
    | (refine wp_loadS rfl 30 _ rfl (w.heap.size + 1) rfl 30 _ _ HX0.out Tryz.underlying30 rfl 5 infoSx rfl ?_))
  refine (RCreate_go q s x false (some ⟨W.heap.size, 0, none⟩) 2 2 [11, (n : Int)] s' e' _ rfl HR1.out ((HP.out.below HB0.out).below (below_lit _ _)) (rd_two W 11 n) hsz (by have := HZ.out.mem; omega) (by have := HZ.out.spots; omega) (by have := HZ.out.words; omega) (by decide) HH.out.1 HH.out.2).mono ?_
  rintro r w3 ⟨q3, rfl, hres, hb⟩
  have hb := below_two (below_lit _ _) hb
  clear c4
  have HRES : Hid (Res W.heap.size q s w3 q3 s') := Lib.hid (hres.mono (by simp))
  have HB3 := Lib.hid (below_two HB0.out hb)
  have HR3 := Lib.hid (HR0.out.below hb)
  clear hres hb
  have hw3 : w.heap.size + 2 < w3.heap.size := HR3.out.lt
  have HBL := Lib.hid (below_lit w3 (.cells (stL nilA zeroP).toArray 28))
  have HBX : Hid (Bx (w3.alloc (.cells (stL nilA zeroP).toArray 28)) w3.heap.size 28 (stL nilA zeroP)) := Lib.hid (Bx.new w3 _ _ _ _ rfl rfl)
  go_wp2_with (refine wp_storeS rfl 28 _ _ rfl w3.heap.size (stL q3 s') rfl rfl 28 (stL nilA zeroP) HBX.out 15 infoSt rfl rfl (stL_one _ _) ?_)
  intro w5 hg5 hw5
  obtain ⟨g, hg⟩ : ∃ g, w3.heap.size = g := ⟨_, rfl⟩
  have HG5 : Hid (Bx w5 g 28 (stL q3 s')) := Lib.hid (by rw [← hg]; exact hg5)
  have HB5 := Lib.hid (below_grown (below_two HB3.out HBL.out) (below_two HB3.out HBL.out).size hw5 (by omega))
  have HR5 := Lib.hid ((HR3.out.below HBL.out).grown hw5 (by omega))
  have HP5 : Hid (RdP w5 q3 s') := Lib.hid ((HRES.out.rd.below HBL.out).grown HRES.out.rd.lies hw5 (by omega))
  have hw35 : w3.heap.size ≤ w5.heap.size := Nat.le_trans HBL.out.size hw5.size
  rw [hg]
  rw [hg] at hw3
  clear hg5 hw5 hg HBX HBL
  go_wp2_with (first
    | (refine wp_loadS rfl 28 _ rfl g rfl 28 _ _ HG5.out Tryz.underlying28 rfl 15 infoSt rfl ?_)
    | (refine wp_storeS rfl 28 _ _ rfl (w.heap.size + 2) (stL q3 s') rfl rfl 28 _ HR5.out 15 infoSt rfl rfl (stL_one _ _) ?_))
  intro w6 hg6 hw6
  have HG := Lib.hid hg6
  have HB6 := Lib.hid (below_grown HB5.out HB5.out.size hw6 (by omega))
  have HP6 := Lib.hid (HP5.out.grown (HRES.out.lies _ HP.out.lies) hw6 (by omega))
  have HL6 : Hid (∀ S : Nat → Prop, Lies q s S → Lies q3 s' (fun b => S b ∨ w.heap.size ≤ b)) := Lib.hid (fun S hS => (HRES.out.lies S hS).mono (fun b hb => hb.imp id (fun h => by omega)))
  clear hg6 hw6
  go_wp2
  refine bodyPost_ret (results_S3 rfl _ _ (w.heap.size + 2) 28 (stL q3 s') _ rfl HG.out Tryz.underlying28 rfl 15 infoSt rfl _ _ rfl rfl) rfl ?_
  exact ⟨q3, rfl, ⟨HP6.out, HL6.out⟩, HB6.out⟩
set_option maxRecDepth 100000 in
set_option maxHeartbeats 4000000 in
theorem RMakes_116 (q : Ad) (s : Ps) (x : Sx) (s' : Ps) (e' : Int) (w : World) (hr : fin (doesD (s, 0)) = (s', e')) (hp : RdP w q s) (_hsz : x.src.size ≤ 200) (hz : SzD s) (h0 : -9223372036854775808 ≤ s.here) (h1 : s.here ≤ 9223372036854775807) :
    Calls Tryz.prog 26 #[stV q s, suV x, .int .i64 116] w fun e w' => ∃ q', e = .returned (.tuple #[stV q' s', .int .i64 e', .bool true]) ∧ Res w.heap.size q s w' q' s' ∧ Below w.heap.size w w' := by
  have HR := Lib.hid hr
  have HZ := Lib.hid hz
  have HH := Lib.hid (And.intro h0 h1)
  clear hr hz h0 h1
  have hr := HR.out
  unfold doesD at hr
  rw [fin_emitD] at hr
  injection hr with ha hb
  have HE1 := Lib.hid ha
  have HE2 := Lib.hid hb
  clear ha hb HR
  have hB0 := below_two (below_two (below_lit w (.cells (stL q s).toArray 28)) (below_lit _ (.cells (suL x).toArray 30))) (below_lit _ (.cells (stL nilA zeroP).toArray 28))
  have hS : Bx (((w.alloc (.cells (stL q s).toArray 28)).alloc (.cells (suL x).toArray 30)).alloc (.cells (stL nilA zeroP).toArray 28)) w.heap.size 28 (stL q s) := ((Bx.new w _ _ _ _ rfl rfl).alloc _).alloc _
  have hX : Bx (((w.alloc (.cells (stL q s).toArray 28)).alloc (.cells (suL x).toArray 30)).alloc (.cells (stL nilA zeroP).toArray 28)) (w.heap.size + 1) 30 (suL x) := (Bx.new _ _ _ _ _ (by simp) rfl).alloc _
  have hR : Bx (((w.alloc (.cells (stL q s).toArray 28)).alloc (.cells (suL x).toArray 30)).alloc (.cells (stL nilA zeroP).toArray 28)) (w.heap.size + 2) 28 (stL nilA zeroP) := Bx.new _ _ _ _ _ (by simp) rfl
  obtain ⟨W, hW⟩ : ∃ W, (((w.alloc (.cells #[.slice q.m s.mem.length q.mc, .slice q.d s.data.length q.dc, .slice q.r s.ret.length q.rc, .slice q.c s.ctl.length q.cc, .slice q.w s.words.length q.wc, .slice q.s s.spots.length q.sc, .slice q.o s.out.length q.oc, .int .i64 s.ip, .int .i64 s.here, .int .i64 s.pos, .int .i64 s.tok, .int .i64 s.inp, .int .i64 s.err, .bool s.comp, .bool s.halt] 28)).alloc (.cells #[.string x.src, .slice x.iA x.iN x.iC, .int .i64 x.size, .int .i64 x.depth, .int .i64 x.room] 30)).alloc (.cells #[.slice none 0 0, .slice none 0 0, .slice none 0 0, .slice none 0 0, .slice none 0 0, .slice none 0 0, .slice none 0 0, .int .i64 0, .int .i64 0, .int .i64 0, .int .i64 0, .int .i64 0, .int .i64 0, .bool false, .bool false] 28)) = W := ⟨_, rfl⟩
  have HB0 : Hid (Below w.heap.size w W) := Lib.hid (by rw [← hW]; exact hB0)
  have HA0 : Hid (Bx W w.heap.size 28 (stL q s)) := Lib.hid (by rw [← hW]; exact hS)
  have HX0 : Hid (Bx W (w.heap.size + 1) 30 (suL x)) := Lib.hid (by rw [← hW]; exact hX)
  have HR0 : Hid (Bx W (w.heap.size + 2) 28 (stL nilA zeroP)) := Lib.hid (by rw [← hW]; exact hR)
  have HP : Hid (RdP w q s) := Lib.hid hp
  have HWW := Lib.hid hW
  clear hp hB0 hS hX hR hW
  rw [stV_eq q s, suV_eq x]
  go_enter Tryz.func26, Tryz.ntmps26
  go_upto_region 1 with fail
  rw [HWW.out]
  have hW2 : w.heap.size + 2 < W.heap.size := HR0.out.lt
  go_wp2_with (first
    | (refine wp_loadS rfl 28 _ rfl w.heap.size rfl 28 _ _ HA0.out Tryz.underlying28 rfl 15 infoSt rfl ?_)
    | (refine wp_loadS rfl 30 _ rfl (w.heap.size + 1) rfl 30 _ _ HX0.out Tryz.underlying30 rfl 5 infoSx rfl ?_))
  refine (REmit_any q s (some ⟨W.heap.size, 0, none⟩) 1 1 [9] s' e' _ rfl HE1.out HE2.out ((HP.out.below HB0.out).below (below_lit _ _)) (rd_one W 9) (by have := HZ.out.mem; omega) (by have := HZ.out.spots; omega)).mono ?_
  rintro r w3 ⟨q3, rfl, hres, hb⟩
  have hb := below_two (below_lit _ _) hb
  have HRES : Hid (Res W.heap.size q s w3 q3 s') := Lib.hid (hres.mono (by simp))
  have HB3 := Lib.hid (below_two HB0.out hb)
  have HR3 := Lib.hid (HR0.out.below hb)
  clear hres hb
  have hw3 : w.heap.size + 2 < w3.heap.size := HR3.out.lt
  have HBL := Lib.hid (below_lit w3 (.cells (stL nilA zeroP).toArray 28))
  have HBX : Hid (Bx (w3.alloc (.cells (stL nilA zeroP).toArray 28)) w3.heap.size 28 (stL nilA zeroP)) := Lib.hid (Bx.new w3 _ _ _ _ rfl rfl)
  go_wp2_with (refine wp_storeS rfl 28 _ _ rfl w3.heap.size (stL q3 s') rfl rfl 28 (stL nilA zeroP) HBX.out 15 infoSt rfl rfl (stL_one _ _) ?_)
  intro w5 hg5 hw5
  obtain ⟨g, hg⟩ : ∃ g, w3.heap.size = g := ⟨_, rfl⟩
  have HG5 : Hid (Bx w5 g 28 (stL q3 s')) := Lib.hid (by rw [← hg]; exact hg5)
  have HB5 := Lib.hid (below_grown (below_two HB3.out HBL.out) (below_two HB3.out HBL.out).size hw5 (by omega))
  have HR5 := Lib.hid ((HR3.out.below HBL.out).grown hw5 (by omega))
  have HP5 : Hid (RdP w5 q3 s') := Lib.hid ((HRES.out.rd.below HBL.out).grown HRES.out.rd.lies hw5 (by omega))
  have hw35 : w3.heap.size ≤ w5.heap.size := Nat.le_trans HBL.out.size hw5.size
  rw [hg]
  rw [hg] at hw3
  clear hg5 hw5 hg HBX HBL
  go_wp2_with (first
    | (refine wp_loadS rfl 28 _ rfl g rfl 28 _ _ HG5.out Tryz.underlying28 rfl 15 infoSt rfl ?_)
    | (refine wp_storeS rfl 28 _ _ rfl (w.heap.size + 2) (stL q3 s') rfl rfl 28 _ HR5.out 15 infoSt rfl rfl (stL_one _ _) ?_))
  intro w6 hg6 hw6
  have HG := Lib.hid hg6
  have HB6 := Lib.hid (below_grown HB5.out HB5.out.size hw6 (by omega))
  have HP6 := Lib.hid (HP5.out.grown (HRES.out.lies _ HP.out.lies) hw6 (by omega))
  have HL6 : Hid (∀ S : Nat → Prop, Lies q s S → Lies q3 s' (fun b => S b ∨ w.heap.size ≤ b)) := Lib.hid (fun S hS => (HRES.out.lies S hS).mono (fun b hb => hb.imp id (fun h => by omega)))
  clear hg6 hw6
  go_wp2
  refine bodyPost_ret (results_S3 rfl _ _ (w.heap.size + 2) 28 (stL q3 s') _ rfl HG.out Tryz.underlying28 rfl 15 infoSt rfl _ _ rfl rfl) rfl ?_
  exact ⟨q3, rfl, ⟨HP6.out, HL6.out⟩, HB6.out⟩
set_option maxRecDepth 100000 in
set_option maxHeartbeats 4000000 in
theorem RMakes_112 (q : Ad) (s : Ps) (x : Sx) (s' : Ps) (e' : Int) (w : World) (hr : fin (immD (s, 0)) = (s', e')) (hp : RdP w q s) (_hsz : x.src.size ≤ 200) (hz : SzD s) (h0 : -9223372036854775808 ≤ s.here) (h1 : s.here ≤ 9223372036854775807) :
    Calls Tryz.prog 26 #[stV q s, suV x, .int .i64 112] w fun e w' => ∃ q', e = .returned (.tuple #[stV q' s', .int .i64 e', .bool true]) ∧ Res w.heap.size q s w' q' s' ∧ Below w.heap.size w w' := by
  have HR := Lib.hid hr
  have HZ := Lib.hid hz
  have HH := Lib.hid (And.intro h0 h1)
  clear hr hz h0 h1
  have hB0 := below_two (below_two (below_lit w (.cells (stL q s).toArray 28)) (below_lit _ (.cells (suL x).toArray 30))) (below_lit _ (.cells (stL nilA zeroP).toArray 28))
  have hS : Bx (((w.alloc (.cells (stL q s).toArray 28)).alloc (.cells (suL x).toArray 30)).alloc (.cells (stL nilA zeroP).toArray 28)) w.heap.size 28 (stL q s) := ((Bx.new w _ _ _ _ rfl rfl).alloc _).alloc _
  have hX : Bx (((w.alloc (.cells (stL q s).toArray 28)).alloc (.cells (suL x).toArray 30)).alloc (.cells (stL nilA zeroP).toArray 28)) (w.heap.size + 1) 30 (suL x) := (Bx.new _ _ _ _ _ (by simp) rfl).alloc _
  have hR : Bx (((w.alloc (.cells (stL q s).toArray 28)).alloc (.cells (suL x).toArray 30)).alloc (.cells (stL nilA zeroP).toArray 28)) (w.heap.size + 2) 28 (stL nilA zeroP) := Bx.new _ _ _ _ _ (by simp) rfl
  obtain ⟨W, hW⟩ : ∃ W, (((w.alloc (.cells #[.slice q.m s.mem.length q.mc, .slice q.d s.data.length q.dc, .slice q.r s.ret.length q.rc, .slice q.c s.ctl.length q.cc, .slice q.w s.words.length q.wc, .slice q.s s.spots.length q.sc, .slice q.o s.out.length q.oc, .int .i64 s.ip, .int .i64 s.here, .int .i64 s.pos, .int .i64 s.tok, .int .i64 s.inp, .int .i64 s.err, .bool s.comp, .bool s.halt] 28)).alloc (.cells #[.string x.src, .slice x.iA x.iN x.iC, .int .i64 x.size, .int .i64 x.depth, .int .i64 x.room] 30)).alloc (.cells #[.slice none 0 0, .slice none 0 0, .slice none 0 0, .slice none 0 0, .slice none 0 0, .slice none 0 0, .slice none 0 0, .int .i64 0, .int .i64 0, .int .i64 0, .int .i64 0, .int .i64 0, .int .i64 0, .bool false, .bool false] 28)) = W := ⟨_, rfl⟩
  have HB0 : Hid (Below w.heap.size w W) := Lib.hid (by rw [← hW]; exact hB0)
  have HA0 : Hid (Bx W w.heap.size 28 (stL q s)) := Lib.hid (by rw [← hW]; exact hS)
  have HX0 : Hid (Bx W (w.heap.size + 1) 30 (suL x)) := Lib.hid (by rw [← hW]; exact hX)
  have HR0 : Hid (Bx W (w.heap.size + 2) 28 (stL nilA zeroP)) := Lib.hid (by rw [← hW]; exact hR)
  have HP : Hid (RdP w q s) := Lib.hid hp
  have HWW := Lib.hid hW
  clear hp hB0 hS hX hR hW
  rw [stV_eq q s, suV_eq x]
  go_enter Tryz.func26, Tryz.ntmps26
  go_upto_region 1 with fail
  rw [HWW.out]
  have hW2 : w.heap.size + 2 < W.heap.size := HR0.out.lt
  obtain ⟨n, hn⟩ : ∃ n, s.words.length = n := ⟨_, rfl⟩
  have c4 : W.cell? ⟨w.heap.size, 4, none⟩ = some (.slice q.w n q.wc) := by have h := HA0.out.cell 4; rw [← hn]; exact h
  by_cases hn0 : n = 0
  · subst hn0
    have hr := HR.out
    unfold immD immY at hr
    simp only at hr
    rw [if_pos hn, show thr 0 (-13) = -13 from rfl, lastD_no (by decide), fin_no (by decide)] at hr
    injection hr with ha hb
    subst ha hb
    clear hn
    go_wp2_with (refine wp_storeS rfl 28 _ _ rfl (w.heap.size + 2) (stL nilA zeroP) rfl rfl 28 _ HR0.out 15 infoSt rfl rfl rfl ?_)
    intro w4 hg4 hw4
    have HG := Lib.hid hg4
    have HB4 := Lib.hid (below_grown HB0.out HB0.out.size hw4 (by omega))
    clear hg4 hw4
    go_wp2
    refine bodyPost_ret (results_S3 rfl _ _ (w.heap.size + 2) 28 (stL nilA zeroP) _ rfl HG.out Tryz.underlying28 rfl 15 infoSt rfl _ _ rfl rfl) rfl ?_
    exact ⟨nilA, rfl, Res.zero _ _ _ _, HB4.out⟩
  · obtain ⟨l0, y, hsw⟩ := snoc_of (l := s.words) (by omega)
    obtain ⟨m, hm⟩ : ∃ m, l0.length = m := ⟨_, rfl⟩
    obtain rfl : n = m + 1 := by rw [← hn, hsw, List.length_append, hm]; rfl
    have hs' : { s with words := turnL (setF true y.hid) s.words } = s' ∧ e' = 0 := by
      have hr := HR.out
      unfold immD immY at hr
      simp only at hr
      rw [if_neg (by omega)] at hr
      unfold lastD at hr
      rw [if_pos rfl] at hr
      unfold fin at hr
      rw [if_pos rfl] at hr
      injection hr with ha hb
      refine ⟨?_, hb.symm⟩
      rw [← ha]
      simp only
      rw [hsw, turnL_snoc, turnL_snoc]
      rfl
    obtain ⟨hs1, rfl⟩ := hs'
    have HS1 := Lib.hid hs1
    have HN := Lib.hid hn
    have hml : m < 1000000 := by have := HZ.out.words; omega
    obtain ⟨ad, hA, hcw⟩ := RdE.all encW_len (by decide) (HP.out.below HB0.out).words (by omega)
    obtain ⟨hid, hhd⟩ : ∃ b, y.hid = b := ⟨_, rfl⟩
    have hc2 := hcw.at' (show m < s.words.length by omega) 3 (by decide) (v := .bool hid) (by rw [← hhd, hsw, ← hm]; simp [encW_eq])
    have HC2 : Hid (W.cell? ((ad.add (m * 4)).add 3) = some (.bool hid)) := Lib.hid (by rw [show (ad.add (m * 4)).add 3 = ⟨(ad.add (m * 4)).block, (ad.add (m * 4)).off + 3, none⟩ from rfl]; exact hc2)
    have hadb : ad.block < w.heap.size := HP.out.lies.words (by omega) ad hA
    rw [hA] at c4
    have HC4 := Lib.hid c4
    have HHD := Lib.hid hhd
    have hn1 : ¬ ((m : Int) + 1 = 0) := by omega
    clear hn hsw hm hs1 hA hcw hc2 hhd HR
    go_upto_region 12 with fail
    refine wp_region_oneS (w.heap.size + 2) (fun v => ∃ q6, Bx v (w.heap.size + 2) 28 (stL q6 s') ∧ RdP v q6 s' ∧ ∀ S, Lies q s S → Lies q6 s' (fun b => S b ∨ W.heap.size ≤ b)) (fun v u h hb => by obtain ⟨q6, h1, h2, h3⟩ := h; exact ⟨q6, h1.below hb, h2.below hb, h3⟩) 11 [fun v _ => v = stV q s, fun v _ => v = .pointer (some ⟨w.heap.size, 4, none⟩), fun v _ => v = .slice (some ad) (m + 1) q.wc, fun v _ => v = .pointer (some ⟨w.heap.size, 4, none⟩), fun v _ => v = .slice (some ad) (m + 1) q.wc, fun v _ => v = .int .i64 (m + 1 : Nat), fun v _ => v = .int .i64 m, fun v _ => v = .pointer (some (ad.add (m * 4))), fun v _ => v = .pointer (some ((ad.add (m * 4)).add 3)), fun v _ => v = .bool hid, fun v u => ∃ q2, v = stV q2 s' ∧ Res W.heap.size q s u q2 s', fun _ _ => True, fun v _ => v = .int .i64 0, fun v _ => v = .bool true] (fun | 2 => [1] | 4 => [3] | 5 => [4] | 6 => [5] | 7 => [2, 6] | 8 => [7] | 9 => [8] | 10 => [0, 9] | 11 => [10] | _ => []) _ rfl rfl (by kernel_rfl) (by kernel_rfl) (by decide) rfl ?_ ?_ ?_
    · intro i hi v u u' h hg
      match i, hi, h with
      | 0, _, h => exact h
      | 1, _, h => exact h
      | 2, _, h => exact h
      | 3, _, h => exact h
      | 4, _, h => exact h
      | 5, _, h => exact h
      | 6, _, h => exact h
      | 7, _, h => exact h
      | 8, _, h => exact h
      | 9, _, h => exact h
      | 10, _, h => (obtain ⟨q2, h1, h2⟩ := h; exact ⟨q2, h1, h2.grown HP.out hg (by omega) (by omega)⟩)
      | 11, _, h => exact h
      | 12, _, h => exact h
      | 13, _, h => exact h
      | n + 14, hi, _ => exact absurd hi (by simp)
    · refine ⟨?_, ?_, ?_, ?_, ?_, ?_, ?_, ?_, ?_, ?_, ?_, ?_, ?_, ?_, trivial⟩
      · intro a v hg hj hd hf
        exact rg_load 28 _ rfl w.heap.size (hf 3 (by decide)) 28 _ _ (HA0.out.grown (g := w.heap.size) hg (by omega)) Tryz.underlying28 rfl 15 infoSt rfl ⟨_, rfl, .inl ⟨Below.refl _ _, by decide⟩, rfl⟩
      · intro a v hg hj hd hf
        exact rg_field _ _ _ rfl _ _ (hf 3 (by decide)) (fd4_run w.heap.size v) ⟨_, rfl, .inl ⟨Below.refl _ _, by decide⟩, rfl⟩
      · intro a v hg hj hd hf
        obtain ⟨_, e, rfl⟩ := hd 1 (by simp)
        have hk : v.cell? ⟨w.heap.size, 4, none⟩ = some (.slice (some ad) (m + 1) q.wc) := by
          have h := HC4.out
          rw [HA0.out.cell] at h
          rw [(HA0.out.grown (g := w.heap.size) hg (by omega)).cell]
          exact h
        exact rg_loadv _ _ rfl _ _ (e 59 rfl) (ld_words _ _ _ _ _ hk) ⟨_, rfl, .inl ⟨Below.refl _ _, by decide⟩, rfl⟩
      · intro a v hg hj hd hf
        exact rg_field _ _ _ rfl _ _ (hf 3 (by decide)) (fd4_run w.heap.size v) ⟨_, rfl, .inl ⟨Below.refl _ _, by decide⟩, rfl⟩
      · intro a v hg hj hd hf
        obtain ⟨_, e, rfl⟩ := hd 3 (by simp)
        have hk : v.cell? ⟨w.heap.size, 4, none⟩ = some (.slice (some ad) (m + 1) q.wc) := by
          have h := HC4.out
          rw [HA0.out.cell] at h
          rw [(HA0.out.grown (g := w.heap.size) hg (by omega)).cell]
          exact h
        exact rg_loadv _ _ rfl _ _ (e 61 rfl) (ld_words _ _ _ _ _ hk) ⟨_, rfl, .inl ⟨Below.refl _ _, by decide⟩, rfl⟩
      · intro a v hg hj hd hf
        obtain ⟨_, e, rfl⟩ := hd 4 (by simp)
        refine rg_run (.int .i64 (m + 1 : Nat)) ?_ ⟨_, rfl, .inl ⟨Below.refl _ _, by decide⟩, rfl⟩
        unfold execOp
        simp only [resolve, invoke, builtin, List.map_toArray, List.map_cons, List.map_nil, e 62 rfl]
        go_simp
      · intro a v hg hj hd hf
        obtain ⟨_, e, rfl⟩ := hd 5 (by simp)
        refine rg_run (.int .i64 m) ?_ ⟨_, rfl, .inl ⟨Below.refl _ _, by decide⟩, rfl⟩
        unfold execOp
        simp only [e 63 rfl, show a.eval (.const (.int .i64 1)) = .int .i64 1 from rfl, eqGuard_sub, Sem.run_bind, Sem.run_pure, Result.andThen_ok, sub1_run (m + 1) m rfl hml v]
      · intro a v hg hj hd hf
        obtain ⟨_, e2, rfl⟩ := hd 2 (by simp)
        obtain ⟨_, e6, rfl⟩ := hd 6 (by simp)
        refine rg_run (.pointer (some (ad.add (m * 4)))) ?_ ⟨_, rfl, .inl ⟨Below.refl _ _, by decide⟩, rfl⟩
        unfold execOp
        simp only [e2 60 rfl, e6 64 rfl, Sem.run_bind, ixA_run ad (m + 1) q.wc m v (by omega), Sem.run_pure, Result.andThen_ok]
      · intro a v hg hj hd hf
        obtain ⟨_, e, rfl⟩ := hd 7 (by simp)
        exact rg_field _ _ _ rfl _ _ (e 65 rfl) (fdA_run _ 3 (by decide) v) ⟨_, rfl, .inl ⟨Below.refl _ _, by decide⟩, rfl⟩
      · intro a v hg hj hd hf
        obtain ⟨_, e, rfl⟩ := hd 8 (by simp)
        have hk := hg.cell HC2.out (fun e => by
          injection e with e
          have h5 : ((ad.add (m * 4)).add 3).block = ad.block := by rw [add_blk, add_blk]
          rw [h5] at e
          omega)
        exact rg_loadv _ _ rfl _ _ (e 66 rfl) (ld_bool _ _ _ hk) ⟨_, rfl, .inl ⟨Below.refl _ _, by decide⟩, rfl⟩
      · intro a v hg hj hd hf
        obtain ⟨_, e0, rfl⟩ := hd 0 (by simp)
        obtain ⟨_, e9, rfl⟩ := hd 9 (by simp)
        have hsz2 := hg.size
        have hrd : RdP v q s := (HP.out.below HB0.out).grown HP.out.lies hg (by omega)
        refine rg_call 79 _ _ rfl #[stV q s, .bool true, .bool hid] (by simp [e0 58 rfl, e9 67 rfl, show a.eval (.const (.bool true)) = .bool true from rfl]) (by go_simp) _ (RLast_go q s true hid s' v (by rw [← HHD.out]; exact HS1.out) hrd (by rw [HN.out]; omega) (by rw [HN.out]; omega)) ?_
        rintro r u ⟨q2, rfl, hres, hb⟩
        exact ⟨_, rfl, _, rfl, .inl ⟨hb, by decide⟩, q2, rfl, hres.mono (by omega)⟩
      · intro a v hg hj hd hf
        obtain ⟨_, e, q2, rfl, h2⟩ := hd 10 (by simp)
        refine rg_store 28 _ _ rfl (w.heap.size + 2) (stL q2 s') (hf 6 (by decide)) (e 68 rfl) 28 (stL nilA zeroP) (HR0.out.below (hj.resolve_right (fun h => h.1 rfl))) 15 infoSt rfl rfl (stL_one _ _) ?_
        intro u hbx hgr
        exact ⟨_, rfl, .inr ⟨rfl, hgr, q2, hbx, h2.rd.grown (h2.lies _ HP.out.lies) hgr (by omega), h2.lies⟩, trivial⟩
      · intro a v hg hj hd hf
        exact rg_assign _ rfl _ rfl ⟨_, rfl, .inl ⟨Below.refl _ _, by decide⟩, rfl⟩
      · intro a v hg hj hd hf
        exact rg_assign _ rfl _ rfl ⟨_, rfl, .inl ⟨Below.refl _ _, by decide⟩, rfl⟩
    · intro V v hg hbx h
      have h12 : V 12 = .int .i64 0 := h 12 (by decide)
      have h13 : V 13 = .bool true := h 13 (by decide)
      obtain ⟨q6, hb6, hr6, hl6⟩ := hbx
      have HG := Lib.hid hb6
      have HP6 := Lib.hid hr6
      have HB6 := Lib.hid (below_grown HB0.out HB0.out.size hg (by omega))
      have HL6 : Hid (∀ S : Nat → Prop, Lies q s S → Lies q6 s' (fun b => S b ∨ w.heap.size ≤ b)) := Lib.hid (fun S hS => (hl6 S hS).mono (fun b hb => hb.imp id (fun h => by omega)))
      clear hb6 hr6 hl6 hg h
      simp only [List.map_cons, List.map_nil, putD, Act.put, List.setIfInBounds_toArray, List.set_cons_succ, List.set_cons_zero, Nat.reduceAdd, Nat.zero_add, h12, h13]
      clear h12 h13
      go_wp2_with fail
      refine bodyPost_ret (results_S3 rfl _ _ (w.heap.size + 2) 28 (stL q6 s') _ rfl HG.out Tryz.underlying28 rfl 15 infoSt rfl _ _ rfl rfl) rfl ?_
      exact ⟨q6, rfl, ⟨HP6.out, HL6.out⟩, HB6.out⟩
set_option maxRecDepth 100000 in
set_option maxHeartbeats 4000000 in
theorem RMakes_114 (q : Ad) (s : Ps) (x : Sx) (s' : Ps) (e' : Int) (w : World) (hr : fin (varD x (s, 0)) = (s', e')) (hp : RdP w q s) (hsz : x.src.size ≤ 200) (hz : SzD s) (h0 : -9223372036854775808 ≤ s.here) (h1 : s.here ≤ 9223372036854775807) :
    Calls Tryz.prog 26 #[stV q s, suV x, .int .i64 114] w fun e w' => ∃ q', e = .returned (.tuple #[stV q' s', .int .i64 e', .bool true]) ∧ Res w.heap.size q s w' q' s' ∧ Below w.heap.size w w' := by
  have HR := Lib.hid hr
  have HZ := Lib.hid hz
  have HH := Lib.hid (And.intro h0 h1)
  clear hr hz h0 h1
  obtain ⟨s2, e2, h2⟩ : ∃ a b, fin (createD x false [8, 0] (s, 0)) = (a, b) := ⟨_, _, rfl⟩
  obtain ⟨a, b, hab⟩ : ∃ a b, createD x false [8, 0] (s, 0) = (a, b) := ⟨_, _, rfl⟩
  have hr := HR.out
  unfold varD at hr
  rw [hab] at h2 hr
  have hml := createD_mem hab
  have H2 : Hid (fin (createD x false [8, 0] (s, 0)) = (s2, e2)) := Lib.hid (by rw [hab]; exact h2)
  by_cases he2 : e2 = 0
  · subst he2
    obtain ⟨rfl, rfl⟩ : a = s2 ∧ b = 0 := by
      have hb := fin_fin h2
      simp only at hb
      subst hb
      injection h2 with ha _
      exact ⟨ha, rfl⟩
    obtain ⟨f, hf⟩ : ∃ f, commaE a = f := ⟨_, rfl⟩
    have hs' : commaS a 0 = s' ∧ f = e' := by
      unfold commaD at hr
      rw [if_pos rfl] at hr
      simp only at hr
      rw [show thr 0 (commaE a) = commaE a from rfl, hf] at hr
      by_cases h0 : f = 0
      · rw [if_pos h0] at hr
        injection hr with ha hb
        exact ⟨ha, by rw [h0, ← hb]⟩
      · rw [if_neg h0, fin_no h0] at hr
        injection hr with ha hb
        refine ⟨?_, hb⟩
        rw [← ha]
        unfold commaS
        rw [if_neg (by rw [hf]; exact h0)]
    obtain ⟨hs1, rfl⟩ := hs'
    have HS1 := Lib.hid hs1
    have HFF := Lib.hid hf
    have HML : Hid (a.mem.length ≤ 100000) := Lib.hid (by rw [hml]; exact HZ.out.mem)
    clear hr h2 hab hml hf hs1 HR
    have hB0 := below_two (below_two (below_lit w (.cells (stL q s).toArray 28)) (below_lit _ (.cells (suL x).toArray 30))) (below_lit _ (.cells (stL nilA zeroP).toArray 28))
    have hS : Bx (((w.alloc (.cells (stL q s).toArray 28)).alloc (.cells (suL x).toArray 30)).alloc (.cells (stL nilA zeroP).toArray 28)) w.heap.size 28 (stL q s) := ((Bx.new w _ _ _ _ rfl rfl).alloc _).alloc _
    have hX : Bx (((w.alloc (.cells (stL q s).toArray 28)).alloc (.cells (suL x).toArray 30)).alloc (.cells (stL nilA zeroP).toArray 28)) (w.heap.size + 1) 30 (suL x) := (Bx.new _ _ _ _ _ (by simp) rfl).alloc _
    have hR : Bx (((w.alloc (.cells (stL q s).toArray 28)).alloc (.cells (suL x).toArray 30)).alloc (.cells (stL nilA zeroP).toArray 28)) (w.heap.size + 2) 28 (stL nilA zeroP) := Bx.new _ _ _ _ _ (by simp) rfl
    obtain ⟨W, hW⟩ : ∃ W, (((w.alloc (.cells #[.slice q.m s.mem.length q.mc, .slice q.d s.data.length q.dc, .slice q.r s.ret.length q.rc, .slice q.c s.ctl.length q.cc, .slice q.w s.words.length q.wc, .slice q.s s.spots.length q.sc, .slice q.o s.out.length q.oc, .int .i64 s.ip, .int .i64 s.here, .int .i64 s.pos, .int .i64 s.tok, .int .i64 s.inp, .int .i64 s.err, .bool s.comp, .bool s.halt] 28)).alloc (.cells #[.string x.src, .slice x.iA x.iN x.iC, .int .i64 x.size, .int .i64 x.depth, .int .i64 x.room] 30)).alloc (.cells #[.slice none 0 0, .slice none 0 0, .slice none 0 0, .slice none 0 0, .slice none 0 0, .slice none 0 0, .slice none 0 0, .int .i64 0, .int .i64 0, .int .i64 0, .int .i64 0, .int .i64 0, .int .i64 0, .bool false, .bool false] 28)) = W := ⟨_, rfl⟩
    have HB0 : Hid (Below w.heap.size w W) := Lib.hid (by rw [← hW]; exact hB0)
    have HA0 : Hid (Bx W w.heap.size 28 (stL q s)) := Lib.hid (by rw [← hW]; exact hS)
    have HX0 : Hid (Bx W (w.heap.size + 1) 30 (suL x)) := Lib.hid (by rw [← hW]; exact hX)
    have HR0 : Hid (Bx W (w.heap.size + 2) 28 (stL nilA zeroP)) := Lib.hid (by rw [← hW]; exact hR)
    have HP : Hid (RdP w q s) := Lib.hid hp
    have HWW := Lib.hid hW
    clear hp hB0 hS hX hR hW
    rw [stV_eq q s, suV_eq x]
    go_enter Tryz.func26, Tryz.ntmps26
    go_upto_region 1 with fail
    rw [HWW.out]
    have hW2 : w.heap.size + 2 < W.heap.size := HR0.out.lt
    go_wp2_with (first
      | (refine wp_loadS rfl 28 _ rfl w.heap.size rfl 28 _ _ HA0.out Tryz.underlying28 rfl 15 infoSt rfl ?_)
      | (refine wp_loadS rfl 30 _ rfl (w.heap.size + 1) rfl 30 _ _ HX0.out Tryz.underlying30 rfl 5 infoSx rfl ?_))
    refine (RCreate_go q s x false (some ⟨W.heap.size, 0, none⟩) 2 2 [8, 0] a 0 _ rfl H2.out ((HP.out.below HB0.out).below (below_lit _ _)) (rd_two W 8 0) hsz (by have := HZ.out.mem; omega) (by have := HZ.out.spots; omega) (by have := HZ.out.words; omega) (by decide) HH.out.1 HH.out.2).mono ?_
    rintro r w3 ⟨q3, rfl, hres, hb⟩
    have hb := below_two (below_lit _ _) hb
    have hW3 : W.heap.size ≤ w3.heap.size := hb.size
    have HRES : Hid (Res W.heap.size q s w3 q3 a) := Lib.hid (hres.mono (by simp))
    have HB3 := Lib.hid (below_two HB0.out hb)
    have HR3 := Lib.hid (HR0.out.below hb)
    clear hres hb
    have hw3 : w.heap.size + 2 < w3.heap.size := HR3.out.lt
    have HBL := Lib.hid (below_lit w3 (.cells (stL nilA zeroP).toArray 28))
    have HBX : Hid (Bx (w3.alloc (.cells (stL nilA zeroP).toArray 28)) w3.heap.size 28 (stL nilA zeroP)) := Lib.hid (Bx.new w3 _ _ _ _ rfl rfl)
    go_wp2_with (refine wp_storeS rfl 28 _ _ rfl w3.heap.size (stL q3 a) rfl rfl 28 (stL nilA zeroP) HBX.out 15 infoSt rfl rfl (stL_one _ _) ?_)
    intro w5 hg5 hw5
    obtain ⟨g, hg⟩ : ∃ g, w3.heap.size = g := ⟨_, rfl⟩
    have HG5 : Hid (Bx w5 g 28 (stL q3 a)) := Lib.hid (by rw [← hg]; exact hg5)
    have HB5 := Lib.hid (below_grown (below_two HB3.out HBL.out) (below_two HB3.out HBL.out).size hw5 (by omega))
    have HR5 := Lib.hid ((HR3.out.below HBL.out).grown hw5 (by omega))
    have HP5 : Hid (RdP w5 q3 a) := Lib.hid ((HRES.out.rd.below HBL.out).grown HRES.out.rd.lies hw5 (by omega))
    have hw35 : w3.heap.size ≤ w5.heap.size := Nat.le_trans HBL.out.size hw5.size
    rw [hg]
    rw [hg] at hw3
    clear hg5 hw5 hg HBX HBL
    go_wp2_with (refine wp_loadS rfl 28 _ rfl g rfl 28 _ _ HG5.out Tryz.underlying28 rfl 15 infoSt rfl ?_)
    refine (RComma_any q3 a 0 s' f w5 HS1.out HFF.out HP5.out (by have := HML.out; omega)).mono ?_
    rintro r w8 ⟨q8, rfl, hres8, hb8⟩
    have HRESA := Lib.hid HRES.out
    have HRES8 : Hid (Res W.heap.size q s w8 q8 s') := Lib.hid (HRES.out.trans hres8 (by omega))
    have HB8 := Lib.hid (below_two HB5.out hb8)
    have HR8 := Lib.hid (HR5.out.below hb8)
    clear hres8 hb8 HRES HRESA HB3 HR3 HB5 HR5 HG5 HP5

    have hw8 : w.heap.size + 2 < w8.heap.size := HR8.out.lt
    have HBL := Lib.hid (below_lit w8 (.cells (stL nilA zeroP).toArray 28))
    have HBX : Hid (Bx (w8.alloc (.cells (stL nilA zeroP).toArray 28)) w8.heap.size 28 (stL nilA zeroP)) := Lib.hid (Bx.new w8 _ _ _ _ rfl rfl)
    go_wp2_with (refine wp_storeS rfl 28 _ _ rfl w8.heap.size (stL q8 s') rfl rfl 28 (stL nilA zeroP) HBX.out 15 infoSt rfl rfl (stL_one _ _) ?_)
    intro w9 hg5 hw9
    obtain ⟨g, hg⟩ : ∃ g, w8.heap.size = g := ⟨_, rfl⟩
    have HG5 : Hid (Bx w9 g 28 (stL q8 s')) := Lib.hid (by rw [← hg]; exact hg5)
    have HB5 := Lib.hid (below_grown (below_two HB8.out HBL.out) (below_two HB8.out HBL.out).size hw9 (by omega))
    have HR5 := Lib.hid ((HR8.out.below HBL.out).grown hw9 (by omega))
    have HP5 : Hid (RdP w9 q8 s') := Lib.hid ((HRES8.out.rd.below HBL.out).grown HRES8.out.rd.lies hw9 (by omega))
    have hw85 : w8.heap.size ≤ w9.heap.size := Nat.le_trans HBL.out.size hw9.size
    rw [hg]
    rw [hg] at hw8
    clear hg5 hw9 hg HBX HBL
    go_wp2_with (first
      | (refine wp_loadS rfl 28 _ rfl g rfl 28 _ _ HG5.out Tryz.underlying28 rfl 15 infoSt rfl ?_)
      | (refine wp_storeS rfl 28 _ _ rfl (w.heap.size + 2) (stL q8 s') rfl rfl 28 _ HR5.out 15 infoSt rfl rfl (stL_one _ _) ?_))
    intro w6 hg6 hw6
    have HG := Lib.hid hg6
    have HB6 := Lib.hid (below_grown HB5.out HB5.out.size hw6 (by omega))
    have HP6 := Lib.hid (HP5.out.grown (HRES8.out.lies _ HP.out.lies) hw6 (by omega))
    have HL6 : Hid (∀ S : Nat → Prop, Lies q s S → Lies q8 s' (fun b => S b ∨ w.heap.size ≤ b)) := Lib.hid (fun S hS => (HRES8.out.lies S hS).mono (fun b hb => hb.imp id (fun h => by omega)))
    clear hg6 hw6
    go_wp2
    refine bodyPost_ret (results_S3 rfl _ _ (w.heap.size + 2) 28 (stL q8 s') _ rfl HG.out Tryz.underlying28 rfl 15 infoSt rfl _ _ rfl rfl) rfl ?_
    exact ⟨q8, rfl, ⟨HP6.out, HL6.out⟩, HB6.out⟩

  · have hs' : s' = zeroP ∧ e' = e2 ∧ s2 = zeroP := by
      have hb := fin_fin h2
      simp only at hb
      subst hb
      unfold commaD at hr
      rw [if_neg (show ¬ (a, e2).2 = 0 from he2), fin_no he2] at hr
      rw [fin_no he2] at h2
      injection hr with ha hb
      injection h2 with hc hd
      exact ⟨ha.symm, hb.symm, hc.symm⟩
    obtain ⟨rfl, rfl, rfl⟩ := hs'
    clear hr h2 hab hml HR
    have hB0 := below_two (below_two (below_lit w (.cells (stL q s).toArray 28)) (below_lit _ (.cells (suL x).toArray 30))) (below_lit _ (.cells (stL nilA zeroP).toArray 28))
    have hS : Bx (((w.alloc (.cells (stL q s).toArray 28)).alloc (.cells (suL x).toArray 30)).alloc (.cells (stL nilA zeroP).toArray 28)) w.heap.size 28 (stL q s) := ((Bx.new w _ _ _ _ rfl rfl).alloc _).alloc _
    have hX : Bx (((w.alloc (.cells (stL q s).toArray 28)).alloc (.cells (suL x).toArray 30)).alloc (.cells (stL nilA zeroP).toArray 28)) (w.heap.size + 1) 30 (suL x) := (Bx.new _ _ _ _ _ (by simp) rfl).alloc _
    have hR : Bx (((w.alloc (.cells (stL q s).toArray 28)).alloc (.cells (suL x).toArray 30)).alloc (.cells (stL nilA zeroP).toArray 28)) (w.heap.size + 2) 28 (stL nilA zeroP) := Bx.new _ _ _ _ _ (by simp) rfl
    obtain ⟨W, hW⟩ : ∃ W, (((w.alloc (.cells #[.slice q.m s.mem.length q.mc, .slice q.d s.data.length q.dc, .slice q.r s.ret.length q.rc, .slice q.c s.ctl.length q.cc, .slice q.w s.words.length q.wc, .slice q.s s.spots.length q.sc, .slice q.o s.out.length q.oc, .int .i64 s.ip, .int .i64 s.here, .int .i64 s.pos, .int .i64 s.tok, .int .i64 s.inp, .int .i64 s.err, .bool s.comp, .bool s.halt] 28)).alloc (.cells #[.string x.src, .slice x.iA x.iN x.iC, .int .i64 x.size, .int .i64 x.depth, .int .i64 x.room] 30)).alloc (.cells #[.slice none 0 0, .slice none 0 0, .slice none 0 0, .slice none 0 0, .slice none 0 0, .slice none 0 0, .slice none 0 0, .int .i64 0, .int .i64 0, .int .i64 0, .int .i64 0, .int .i64 0, .int .i64 0, .bool false, .bool false] 28)) = W := ⟨_, rfl⟩
    have HB0 : Hid (Below w.heap.size w W) := Lib.hid (by rw [← hW]; exact hB0)
    have HA0 : Hid (Bx W w.heap.size 28 (stL q s)) := Lib.hid (by rw [← hW]; exact hS)
    have HX0 : Hid (Bx W (w.heap.size + 1) 30 (suL x)) := Lib.hid (by rw [← hW]; exact hX)
    have HR0 : Hid (Bx W (w.heap.size + 2) 28 (stL nilA zeroP)) := Lib.hid (by rw [← hW]; exact hR)
    have HP : Hid (RdP w q s) := Lib.hid hp
    have HWW := Lib.hid hW
    clear hp hB0 hS hX hR hW
    rw [stV_eq q s, suV_eq x]
    go_enter Tryz.func26, Tryz.ntmps26
    go_upto_region 1 with fail
    rw [HWW.out]
    have hW2 : w.heap.size + 2 < W.heap.size := HR0.out.lt
    go_wp2_with (first
      | (refine wp_loadS rfl 28 _ rfl w.heap.size rfl 28 _ _ HA0.out Tryz.underlying28 rfl 15 infoSt rfl ?_)
      | (refine wp_loadS rfl 30 _ rfl (w.heap.size + 1) rfl 30 _ _ HX0.out Tryz.underlying30 rfl 5 infoSx rfl ?_))
    refine (RCreate_go q s x false (some ⟨W.heap.size, 0, none⟩) 2 2 [8, 0] zeroP e' _ rfl H2.out ((HP.out.below HB0.out).below (below_lit _ _)) (rd_two W 8 0) hsz (by have := HZ.out.mem; omega) (by have := HZ.out.spots; omega) (by have := HZ.out.words; omega) (by decide) HH.out.1 HH.out.2).mono ?_
    rintro r w3 ⟨q3, rfl, hres, hb⟩
    have hb := below_two (below_lit _ _) hb
    have HRES : Hid (Res W.heap.size q s w3 q3 zeroP) := Lib.hid (hres.mono (by simp))
    have HB3 := Lib.hid (below_two HB0.out hb)
    have HR3 := Lib.hid (HR0.out.below hb)
    clear hres hb
    have hw3 : w.heap.size + 2 < w3.heap.size := HR3.out.lt
    have HBL := Lib.hid (below_lit w3 (.cells (stL nilA zeroP).toArray 28))
    have HBX : Hid (Bx (w3.alloc (.cells (stL nilA zeroP).toArray 28)) w3.heap.size 28 (stL nilA zeroP)) := Lib.hid (Bx.new w3 _ _ _ _ rfl rfl)
    go_wp2_with (refine wp_storeS rfl 28 _ _ rfl w3.heap.size (stL q3 zeroP) rfl rfl 28 (stL nilA zeroP) HBX.out 15 infoSt rfl rfl (stL_one _ _) ?_)
    intro w5 hg5 hw5
    obtain ⟨g, hg⟩ : ∃ g, w3.heap.size = g := ⟨_, rfl⟩
    have HG5 : Hid (Bx w5 g 28 (stL q3 zeroP)) := Lib.hid (by rw [← hg]; exact hg5)
    have HB5 := Lib.hid (below_grown (below_two HB3.out HBL.out) (below_two HB3.out HBL.out).size hw5 (by omega))
    have HR5 := Lib.hid ((HR3.out.below HBL.out).grown hw5 (by omega))
    have HP5 : Hid (RdP w5 q3 zeroP) := Lib.hid ((HRES.out.rd.below HBL.out).grown HRES.out.rd.lies hw5 (by omega))
    have hw35 : w3.heap.size ≤ w5.heap.size := Nat.le_trans HBL.out.size hw5.size
    rw [hg]
    rw [hg] at hw3
    clear hg5 hw5 hg HBX HBL

    go_wp2_with (refine wp_storeS rfl 28 _ _ rfl (w.heap.size + 2) (stL nilA zeroP) rfl rfl 28 _ HR5.out 15 infoSt rfl rfl rfl ?_)
    intro w4 hg4 hw4
    have HG := Lib.hid hg4
    have HB4 := Lib.hid (below_grown HB5.out HB5.out.size hw4 (by omega))
    clear hg4 hw4
    go_wp2
    refine bodyPost_ret (results_S3 rfl _ _ (w.heap.size + 2) 28 (stL nilA zeroP) _ rfl HG.out Tryz.underlying28 rfl 15 infoSt rfl _ _ rfl rfl) rfl ?_
    exact ⟨nilA, rfl, Res.zero _ _ _ _, HB4.out⟩
theorem stable_ptr (W : World) (F : Value → Prop) : Stable W (fun _ v _ => F v) := fun _ _ _ _ _ _ h _ => h
set_option maxRecDepth 100000 in
set_option maxHeartbeats 4000000 in
theorem RMakes_113 (q : Ad) (s : Ps) (x : Sx) (s' : Ps) (e' : Int) (w : World) (hr : fin (constD x (s, 0)) = (s', e')) (hp : RdP w q s) (hsz : x.src.size ≤ 200) (hz : SzD s) (h0 : -9223372036854775808 ≤ s.here) (h1 : s.here ≤ 9223372036854775807) :
    Calls Tryz.prog 26 #[stV q s, suV x, .int .i64 113] w fun e w' => ∃ q', e = .returned (.tuple #[stV q' s', .int .i64 e', .bool true]) ∧ Res w.heap.size q s w' q' s' ∧ Below w.heap.size w w' := by
  have HR := Lib.hid hr
  have HZ := Lib.hid hz
  have HH := Lib.hid (And.intro h0 h1)
  clear hr hz h0 h1
  have hB0 := below_two (below_two (below_lit w (.cells (stL q s).toArray 28)) (below_lit _ (.cells (suL x).toArray 30))) (below_lit _ (.cells (stL nilA zeroP).toArray 28))
  have hS : Bx (((w.alloc (.cells (stL q s).toArray 28)).alloc (.cells (suL x).toArray 30)).alloc (.cells (stL nilA zeroP).toArray 28)) w.heap.size 28 (stL q s) := ((Bx.new w _ _ _ _ rfl rfl).alloc _).alloc _
  have hX : Bx (((w.alloc (.cells (stL q s).toArray 28)).alloc (.cells (suL x).toArray 30)).alloc (.cells (stL nilA zeroP).toArray 28)) (w.heap.size + 1) 30 (suL x) := (Bx.new _ _ _ _ _ (by simp) rfl).alloc _
  have hR : Bx (((w.alloc (.cells (stL q s).toArray 28)).alloc (.cells (suL x).toArray 30)).alloc (.cells (stL nilA zeroP).toArray 28)) (w.heap.size + 2) 28 (stL nilA zeroP) := Bx.new _ _ _ _ _ (by simp) rfl
  obtain ⟨W, hW⟩ : ∃ W, (((w.alloc (.cells #[.slice q.m s.mem.length q.mc, .slice q.d s.data.length q.dc, .slice q.r s.ret.length q.rc, .slice q.c s.ctl.length q.cc, .slice q.w s.words.length q.wc, .slice q.s s.spots.length q.sc, .slice q.o s.out.length q.oc, .int .i64 s.ip, .int .i64 s.here, .int .i64 s.pos, .int .i64 s.tok, .int .i64 s.inp, .int .i64 s.err, .bool s.comp, .bool s.halt] 28)).alloc (.cells #[.string x.src, .slice x.iA x.iN x.iC, .int .i64 x.size, .int .i64 x.depth, .int .i64 x.room] 30)).alloc (.cells #[.slice none 0 0, .slice none 0 0, .slice none 0 0, .slice none 0 0, .slice none 0 0, .slice none 0 0, .slice none 0 0, .int .i64 0, .int .i64 0, .int .i64 0, .int .i64 0, .int .i64 0, .int .i64 0, .bool false, .bool false] 28)) = W := ⟨_, rfl⟩
  have HB0 : Hid (Below w.heap.size w W) := Lib.hid (by rw [← hW]; exact hB0)
  have HA0 : Hid (Bx W w.heap.size 28 (stL q s)) := Lib.hid (by rw [← hW]; exact hS)
  have HX0 : Hid (Bx W (w.heap.size + 1) 30 (suL x)) := Lib.hid (by rw [← hW]; exact hX)
  have HR0 : Hid (Bx W (w.heap.size + 2) 28 (stL nilA zeroP)) := Lib.hid (by rw [← hW]; exact hR)
  have HP : Hid (RdP w q s) := Lib.hid hp
  have HWW := Lib.hid hW
  clear hp hB0 hS hX hR hW
  rw [stV_eq q s, suV_eq x]
  go_enter Tryz.func26, Tryz.ntmps26
  go_upto_region 1 with fail
  rw [HWW.out]
  have hW2 : w.heap.size + 2 < W.heap.size := HR0.out.lt
  obtain ⟨n, hn⟩ : ∃ n, s.data.length = n := ⟨_, rfl⟩
  have c1 : W.cell? ⟨w.heap.size, 1, none⟩ = some (.slice q.d n q.dc) := by have h := HA0.out.cell 1; rw [← hn]; exact h
  have HN := Lib.hid hn
  by_cases hd0 : 0 < n
  · obtain ⟨p1, p2, p3⟩ := pop_one (l := s.data) (by omega)
    rw [hn] at p1 p2
    have HP1 := Lib.hid p1
    have HP2 := Lib.hid p2
    have HP3 := Lib.hid p3
    obtain ⟨vv, hvv⟩ : ∃ vv, s.data.getD (n - 1) 0 = vv := ⟨_, rfl⟩
    have hlt : (s.data.take (n - 1)).length = n - 1 := by rw [List.length_take]; omega
    have HLT := Lib.hid hlt
    obtain ⟨sA, hsA⟩ : ∃ a : Ps, { s with data := s.data.take (n - 1) } = a := ⟨_, rfl⟩
    have htk : takeD (s, 0) = (sA, 0) ∧ takeV (s, 0) = vv := by
      unfold takeD takeV
      rw [if_pos rfl, if_pos (by rw [hn]; exact hd0), if_pos ⟨rfl, by rw [hn]; exact hd0⟩]
      simp only
      rw [hn, hsA, hvv]
      exact ⟨rfl, rfl⟩
    have HTK := Lib.hid htk
    have HSA := Lib.hid hsA
    have HVV := Lib.hid hvv
    have HSF : Hid (sA.mem = s.mem ∧ sA.spots = s.spots ∧ sA.words = s.words ∧ sA.here = s.here) := Lib.hid (by rw [← hsA]; exact ⟨rfl, rfl, rfl, rfl⟩)
    clear hn p1 p2 p3 hlt htk hsA hvv
    go_wp2_with fail
    refine (rpop_is q.d q.dc n s.data _ _ 0 W HN.out HP1.out HP2.out HP3.out (HP.out.below HB0.out).data).mono ?_
    rintro r w1 ⟨A1, c1', A2, c2, ha, rfl, h1, h2, hb⟩
    obtain ⟨ad, hA2, e0⟩ := RdI.at_ h2 (j := 0) (by simp)
    have HA := Lib.hid ha
    have HR1 := Lib.hid h1
    have HB1 := Lib.hid (below_two HB0.out hb)
    have HA1 := Lib.hid (HA0.out.below hb)
    have HX1 := Lib.hid (HX0.out.below hb)
    have HRB := Lib.hid (HR0.out.below hb)
    have hw1 : W.heap.size ≤ w1.heap.size := hb.size
    have HE0 : Hid (w1.cell? ad = some (.int .i64 vv) ∧ A2 = some ad) := Lib.hid ⟨by rw [← HVV.out]; exact e0, hA2⟩
    rw [HLT.out]
    clear ha h1 h2 hb e0 hA2 c1
    go_wp2_with (refine wp_storeF rfl 23 _ _ rfl w.heap.size 1 _ rfl rfl rfl 28 _ HA1.out 15 rfl (by decide) info1c ?_)
    intro w3 hg3 hw3
    obtain ⟨qA, hqA⟩ : ∃ a : Ad, { q with d := A1, dc := c1' } = a := ⟨_, rfl⟩
    have HLI : Hid (∀ S, Lies q s S → Lies qA sA S) := Lib.hid (fun S hS => by rw [← hqA, ← HSA.out]; exact take_lies hS HA.out (fun _ => by rw [HN.out]; exact hd0))
    have HA3 : Hid (Bx w3 w.heap.size 28 (stL qA sA)) := Lib.hid (by
      have e : (stL q s).set 1 (.slice A1 (n - 1) c1') = stL qA sA := by
        rw [← hqA, ← HSA.out]
        unfold stL
        rw [show ({ s with data := s.data.take (n - 1) } : Ps).data.length = n - 1 from HLT.out]
        rfl
      rw [← e]
      exact hg3)
    have HPA : Hid (RdP w3 qA sA) := Lib.hid (by
      have hl := HLI.out _ HP.out.lies
      have h : RdP w1 qA sA := by
        rw [← hqA, ← HSA.out]
        exact (HP.out.below HB1.out).withData HR1.out
      exact h.grown hl hw3 (by omega))
    have HX3 := Lib.hid (HX1.out.grown hw3 (by omega))
    have HR3 := Lib.hid (HRB.out.grown hw3 (by omega))
    have HB3 := Lib.hid (below_grown HB1.out HB1.out.size hw3 (Nat.le_refl _))
    have hadb : ad.block < w.heap.size := by
      obtain ⟨a0, h1, h2⟩ := HA.out.2 ad HE0.out.2
      rw [h2]
      exact HP.out.lies.data (by rw [HN.out]; exact hd0) a0 h1
    have HE3 : Hid (w3.cell? ad = some (.int .i64 vv)) := Lib.hid (hw3.cell HE0.out.1 (fun e => by injection e with e; omega))
    have hw13 : w1.heap.size ≤ w3.heap.size := hw3.size
    obtain rfl := HE0.out.2
    clear hg3 hw3 hqA HE0 HR1 HA HA1 HX1 HRB
    have hr := HR.out
    unfold constD at hr
    rw [HTK.out.1, HTK.out.2] at hr
    have HRC := Lib.hid hr
    clear hr HR
    go_upto_region 18 with fail
    refine wp_region_facts (W := w3) [fVal (stV qA sA), fVal (suV x), fVal (.slice (some ad) 1 c2), fVal (.pointer (some ad)), fVal (.int .i64 vv), fRow 3 .i64 [2, vv, 1], fTupL qA sA w3.heap.size s' [.int .i64 e'], fTupL qA sA w3.heap.size s' [.int .i64 e'], fStL qA sA w3.heap.size s', fVal (.int .i64 e'), fBox 20 28 (stL nilA zeroP), fSetL qA sA w3.heap.size 20 28 s', fVal (.int .i64 e')] (fun | 3 => [2] | 4 => [3] | 5 => [4] | 6 => [0, 1, 5] | 7 => [6] | 8 => [7] | 9 => [7] | 11 => [10, 8] | 12 => [9] | _ => []) (fun | 11 => 21 | i => 2 * i) _ rfl rfl (by kernel_rfl) (by kernel_rfl) ?_ ?_ ?_
    · exact (.cons (stable_val _ _) (.cons (stable_val _ _) (.cons (stable_val _ _) (.cons (stable_val _ _) (.cons (stable_val _ _) (.cons (stable_row _ _ _ _ (by simp)) (.cons (stable_tupL _ _ _ _ _ _) (.cons (stable_tupL _ _ _ _ _ _) (.cons (stable_stL _ _ _ _ _) (.cons (stable_val _ _) (.cons (stable_box _ _ _ _) (.cons (stable_setL _ _ _ _ _ _ _) (.cons (stable_val _ _) AllStable.nil)))))))))))))
    · refine ⟨?_, ?_, ?_, ?_, ?_, ?_, ?_, ?_, ?_, ?_, ?_, ?_, ?_, trivial⟩
      · intro a γ v hj hu hd hf
        exact rg_load 28 _ rfl w.heap.size (hf 3 (by decide)) 28 (stL qA sA) _ (HA3.out.below hj.below) Tryz.underlying28 rfl 15 infoSt rfl ⟨_, rfl, .quiet rfl⟩
      · intro a γ v hj hu hd hf
        exact rg_load 30 _ rfl (w.heap.size + 1) (hf 4 (by decide)) 30 (suL x) _ (HX3.out.below hj.below) Tryz.underlying30 rfl 5 infoSx rfl ⟨_, rfl, .quiet rfl⟩
      · intro a γ v hj hu hd hf
        exact rg_move _ rfl _ (hf 14 (by decide)) ⟨_, rfl, .quiet rfl⟩
      · intro a γ v hj hu hd hf
        obtain ⟨_, e, rfl⟩ := hd 2 (by simp)
        refine rg_run (.pointer (some ad)) ?_ ⟨_, rfl, .quiet rfl⟩
        unfold execOp
        simp only [e 86 rfl, show a.eval (.const (.int .i64 0)) = .int .i64 0 from rfl, Sem.run_bind, ixI_run ad 1 c2 v (by decide), Sem.run_pure, Result.andThen_ok]
      · intro a γ v hj hu hd hf
        obtain ⟨_, e, rfl⟩ := hd 3 (by simp)
        exact rg_loadv _ _ rfl _ _ (e 87 rfl) (ld_int _ _ _ ((hj.below.cell (World.block_lt_of_cell? _ _ HE3.out)).trans HE3.out)) ⟨_, rfl, .quiet rfl⟩
      · intro a γ v hj hu hd hf
        obtain ⟨_, e, rfl⟩ := hd 4 (by simp)
        refine rg_runw (.slice (some ⟨v.heap.size, 0, none⟩) 3 3) (v.alloc (.cells #[.int .i64 2, .int .i64 vv, .int .i64 1] 3 (0, 0))) ?_ ⟨_, rfl, .grow (below_lit _ _) ⟨v.heap.size, rfl, rd_three v 2 vv 1, fun i e => by have := (hj.lt i _ e).2; omega⟩⟩
        unfold execOp
        simp only [List.map_toArray, List.map_cons, List.map_nil, e 88 rfl, show a.eval (.const (.int .i64 2)) = .int .i64 2 from rfl, show a.eval (.const (.int .i64 1)) = .int .i64 1 from rfl, Sem.run_bind, b3_run, Sem.run_pure, Result.andThen_ok]
      · intro a γ v hj hu hd hf
        obtain ⟨_, e0, rfl⟩ := hd 0 (by simp)
        obtain ⟨_, e1, rfl⟩ := hd 1 (by simp)
        obtain ⟨_, er, m, rfl, hrow, _⟩ := hd 5 (by simp)
        have hsz2 := hj.below.size
        refine rg_call 77 _ _ rfl #[stV qA sA, suV x, .bool false, .slice (some ⟨m, 0, none⟩) 3 3] (by simp [e0 84 rfl, e1 85 rfl, er 89 rfl, show a.eval (.const (.bool false)) = .bool false from rfl]) (by go_simp) _ (RCreate_go qA sA x false (some ⟨m, 0, none⟩) 3 3 [2, vv, 1] s' e' v rfl HRC.out (HPA.out.below hj.below) hrow hsz (by rw [HSF.out.1]; have := HZ.out.mem; omega) (by rw [HSF.out.2.1]; have := HZ.out.spots; omega) (by rw [HSF.out.2.2.1]; have := HZ.out.words; omega) (by decide) (by rw [HSF.out.2.2.2]; exact HH.out.1) (by rw [HSF.out.2.2.2]; exact HH.out.2)) ?_
        rintro r u ⟨q2, rfl, hres, hb⟩
        exact ⟨_, rfl, _, rfl, .grow hb ⟨q2, rfl, .of_res hj (hj.lies_old HPA.out) hres, fun S hS => (hres.lies S hS).mono (fun b hb => hb.imp id (fun h => by omega))⟩⟩
      · intro a γ v hj hu hd hf
        obtain ⟨_, e, q2, rfl, hs⟩ := hd 6 (by simp)
        exact rg_move _ rfl _ (e 90 rfl) ⟨_, rfl, .quiet ⟨q2, rfl, hs⟩⟩
      · intro a γ v hj hu hd hf
        obtain ⟨_, e, q2, rfl, hs⟩ := hd 7 (by simp)
        exact rg_extract _ _ rfl _ (e 83 rfl) _ rfl ⟨_, rfl, .quiet ⟨q2, rfl, hs⟩⟩
      · intro a γ v hj hu hd hf
        obtain ⟨_, e, q2, rfl, hs⟩ := hd 7 (by simp)
        exact rg_extract _ _ rfl _ (e 83 rfl) _ rfl ⟨_, rfl, .quiet rfl⟩
      · intro a γ v hj hu hd hf
        refine rg_alloc 28 rfl (stL nilA zeroP) (.agg (stL nilA zeroP).toArray) (by kernel_rfl) rfl ?_
        intro w' g hx hb h1 h2
        exact ⟨_, rfl, .box (by kernel_rfl) (by decide) hu hb h1 h2 hx⟩
      · intro a γ v hj hu hd hf
        obtain ⟨_, e1, g, rfl, hg, hx⟩ := hd 10 (by simp)
        obtain ⟨_, e2, q2, rfl, hs, hl⟩ := hd 8 (by simp)
        refine rg_store 28 _ _ rfl g (stL q2 s') (e1 16 rfl) (e2 91 rfl) 28 _ (hx hu) 15 infoSt rfl rfl (stL_one q2 s') ?_
        intro w' hx' hg'
        exact ⟨_, rfl, .set (k := 20) (by kernel_rfl) (by decide) rfl hg hu hg' ⟨q2, GE.st (.set 20 g hg hu hg') hs, hl, g, by rw [gset_other _ _ (by decide)]; exact hg, gset_same _ _ _, hx'⟩⟩
      · intro a γ v hj hu hd hf
        obtain ⟨_, e, rfl⟩ := hd 9 (by simp)
        exact rg_assign _ rfl _ (e 92 rfl) ⟨_, rfl, .quiet rfl⟩
    · intro V γ v hj h
      obtain ⟨g, h8, hg, _⟩ := h 10 (by decide)
      obtain ⟨q6, ⟨hr6, _⟩, hl6, g', hg', _, hx6⟩ := h 11 (by decide)
      have hv : V 12 = .int .i64 e' := h 12 (by decide)
      rw [hg] at hg'
      cases hg'
      have hgl := (hj.lt 20 g (by rw [hg]; rfl)).1
      have hsz3 := hj.below.size
      have HG6 := Lib.hid hx6
      have HP6 := Lib.hid hr6
      have HB6 := Lib.hid (below_two HB3.out hj.below)
      have HR6 := Lib.hid (HR3.out.below hj.below)
      have HL6 : Hid (∀ S : Nat → Prop, Lies q s S → Lies q6 s' (fun b => S b ∨ w3.heap.size ≤ b)) := Lib.hid (fun S hS => hl6 S (HLI.out S hS))
      simp only [List.map_cons, List.map_nil, putD, Act.put, List.setIfInBounds_toArray, List.set_cons_succ, List.set_cons_zero, Nat.reduceAdd, Nat.zero_add, h8, hv]
      clear hr6 hl6 hx6 hj h h8 hv hg
      go_wp2_with (first
        | (refine wp_loadS rfl 28 _ rfl g rfl 28 _ _ HG6.out Tryz.underlying28 rfl 15 infoSt rfl ?_)
        | (refine wp_storeS rfl 28 _ _ rfl (w.heap.size + 2) (stL q6 s') rfl rfl 28 _ HR6.out 15 infoSt rfl rfl (stL_one _ _) ?_))
      intro w7 hg7 hw7
      have HG := Lib.hid hg7
      have HB7 := Lib.hid (below_grown HB6.out HB6.out.size hw7 (by omega))
      have HP7 := Lib.hid (HP6.out.grown (HL6.out _ HP.out.lies) hw7 (by omega))
      have HL7 : Hid (∀ S : Nat → Prop, Lies q s S → Lies q6 s' (fun b => S b ∨ w.heap.size ≤ b)) := Lib.hid (fun S hS => (HL6.out S hS).mono (fun b hb => hb.imp id (fun h => by omega)))
      clear hg7 hw7
      go_wp2
      refine bodyPost_ret (results_S3 rfl _ _ (w.heap.size + 2) 28 (stL q6 s') _ rfl HG.out Tryz.underlying28 rfl 15 infoSt rfl _ _ rfl rfl) rfl ?_
      exact ⟨q6, rfl, ⟨HP7.out, HL7.out⟩, HB7.out⟩
  · have hd1 : n = 0 := by omega
    subst hd1
    obtain ⟨p1, p2, p3⟩ := pop_none (l := s.data) (by omega)
    have HP1 := Lib.hid p1
    have HP2 := Lib.hid p2
    have HP3 := Lib.hid p3
    have hr := HR.out
    have ht : takeD (s, 0) = (s, -4) := by
      unfold takeD
      rw [if_pos rfl, if_neg (by show ¬ 0 < s.data.length; omega)]
    unfold constD at hr
    rw [ht, fin_err' (createD_no (show (-4 : Int) ≠ 0 by decide)) (by decide)] at hr
    injection hr with ha hb
    subst ha hb
    clear hn p1 p2 p3 ht
    go_wp2_with fail
    refine (rpop_is q.d q.dc 0 s.data _ _ (-4) W HN.out HP1.out HP2.out HP3.out (HP.out.below HB0.out).data).mono ?_
    rintro r w1 ⟨A1, c1', A2, c2, ha, rfl, h1, h2, hb⟩
    have HB1 := Lib.hid (below_two HB0.out hb)
    have HR1 := Lib.hid (HR0.out.below hb)
    clear ha h1 h2 hb c1
    go_wp2_with (refine wp_storeS rfl 28 _ _ rfl (w.heap.size + 2) (stL nilA zeroP) rfl rfl 28 _ HR1.out 15 infoSt rfl rfl rfl ?_)
    intro w4 hg4 hw4
    have HG := Lib.hid hg4
    have HB4 := Lib.hid (below_grown HB1.out HB1.out.size hw4 (by omega))
    clear hg4 hw4
    go_wp2
    refine bodyPost_ret (results_S3 rfl _ _ (w.heap.size + 2) 28 (stL nilA zeroP) _ rfl HG.out Tryz.underlying28 rfl 15 infoSt rfl _ _ rfl rfl) rfl ?_
    exact ⟨nilA, rfl, Res.zero _ _ _ _, HB4.out⟩
set_option maxRecDepth 100000 in
set_option maxHeartbeats 4000000 in
theorem RMakes_none (k : Int) (q : Ad) (s : Ps) (x : Sx) (w : World) (hk : k ≠ 110 ∧ k ≠ 111 ∧ k ≠ 112 ∧ k ≠ 113 ∧ k ≠ 114 ∧ k ≠ 115 ∧ k ≠ 116 ∧ k ≠ 117) (hp : RdP w q s) :
    Calls Tryz.prog 26 #[stV q s, suV x, .int .i64 k] w fun e w' => e = .returned (.tuple #[stV nilA zeroP, .int .i64 0, .bool false]) ∧ Below w.heap.size w w' := by
  have hB0 := below_two (below_two (below_lit w (.cells (stL q s).toArray 28)) (below_lit _ (.cells (suL x).toArray 30))) (below_lit _ (.cells (stL nilA zeroP).toArray 28))
  have hS : Bx (((w.alloc (.cells (stL q s).toArray 28)).alloc (.cells (suL x).toArray 30)).alloc (.cells (stL nilA zeroP).toArray 28)) w.heap.size 28 (stL q s) := ((Bx.new w _ _ _ _ rfl rfl).alloc _).alloc _
  have hX : Bx (((w.alloc (.cells (stL q s).toArray 28)).alloc (.cells (suL x).toArray 30)).alloc (.cells (stL nilA zeroP).toArray 28)) (w.heap.size + 1) 30 (suL x) := (Bx.new _ _ _ _ _ (by simp) rfl).alloc _
  have hR : Bx (((w.alloc (.cells (stL q s).toArray 28)).alloc (.cells (suL x).toArray 30)).alloc (.cells (stL nilA zeroP).toArray 28)) (w.heap.size + 2) 28 (stL nilA zeroP) := Bx.new _ _ _ _ _ (by simp) rfl
  obtain ⟨W, hW⟩ : ∃ W, (((w.alloc (.cells #[.slice q.m s.mem.length q.mc, .slice q.d s.data.length q.dc, .slice q.r s.ret.length q.rc, .slice q.c s.ctl.length q.cc, .slice q.w s.words.length q.wc, .slice q.s s.spots.length q.sc, .slice q.o s.out.length q.oc, .int .i64 s.ip, .int .i64 s.here, .int .i64 s.pos, .int .i64 s.tok, .int .i64 s.inp, .int .i64 s.err, .bool s.comp, .bool s.halt] 28)).alloc (.cells #[.string x.src, .slice x.iA x.iN x.iC, .int .i64 x.size, .int .i64 x.depth, .int .i64 x.room] 30)).alloc (.cells #[.slice none 0 0, .slice none 0 0, .slice none 0 0, .slice none 0 0, .slice none 0 0, .slice none 0 0, .slice none 0 0, .int .i64 0, .int .i64 0, .int .i64 0, .int .i64 0, .int .i64 0, .int .i64 0, .bool false, .bool false] 28)) = W := ⟨_, rfl⟩
  have HB0 : Hid (Below w.heap.size w W) := Lib.hid (by rw [← hW]; exact hB0)
  have HA0 : Hid (Bx W w.heap.size 28 (stL q s)) := Lib.hid (by rw [← hW]; exact hS)
  have HX0 : Hid (Bx W (w.heap.size + 1) 30 (suL x)) := Lib.hid (by rw [← hW]; exact hX)
  have HR0 : Hid (Bx W (w.heap.size + 2) 28 (stL nilA zeroP)) := Lib.hid (by rw [← hW]; exact hR)
  have HP : Hid (RdP w q s) := Lib.hid hp
  have HWW := Lib.hid hW
  clear hp hB0 hS hX hR hW
  rw [stV_eq q s, suV_eq x]
  go_enter Tryz.func26, Tryz.ntmps26
  go_upto_region 1 with fail
  rw [HWW.out]
  have hW2 : w.heap.size + 2 < W.heap.size := HR0.out.lt
  obtain ⟨k110, k111, k112, k113, k114, k115, k116, k117⟩ := hk
  go_wp2_with (refine wp_storeS rfl 28 _ _ rfl (w.heap.size + 2) (stL nilA zeroP) rfl rfl 28 _ HR0.out 15 infoSt rfl rfl rfl ?_)
  intro w4 hg4 hw4
  have HG := Lib.hid hg4
  have HB4 := Lib.hid (below_grown HB0.out HB0.out.size hw4 (by omega))
  clear hg4 hw4
  go_wp2
  refine bodyPost_ret (results_S3 rfl _ _ (w.heap.size + 2) 28 (stL nilA zeroP) _ rfl HG.out Tryz.underlying28 rfl 15 infoSt rfl _ _ rfl rfl) rfl ?_
  exact ⟨rfl, HB4.out⟩
end Go.Proofs.YtappfhjknihboaaGreatDoor
