
/- The reference's Do. -/
import Derived.Test.YtappfhjknihboaaGreatDoorRReadsD
import Derived.Test.YtappfhjknihboaaGreatDoorDoW
namespace Go.Proofs.YtappfhjknihboaaGreatDoor
open Go.RowKit

def mkD (x : Sx) (s : Ps) (op : Int) : Ps × Int × Bool :=
  if op = 110 then resF (colonD x (s, 0)) else
  if op = 111 then resF (endD (s, 0)) else
  if op = 112 then resF (immD (s, 0)) else
  if op = 113 then resF (constD x (s, 0)) else
  if op = 114 then resF (varD x (s, 0)) else
  if op = 115 then resF (creaD x (s, 0)) else
  if op = 116 then resF (doesD (s, 0)) else
  if op = 117 then resF (markD x (s, 0)) else
  (zeroP, 0, false)
def rdD (x : Sx) (s : Ps) (op : Int) : Ps × Int × Bool :=
  if op = 118 then resF (tickD x (s, 0)) else
  if op = 119 then resF (btickD x (s, 0)) else
  if op = 120 then resF (litD (s, 0)) else
  if op = 121 then resF (postD x (s, 0)) else
  if op = 122 then resF (compD false (s, 0)) else
  if op = 123 then resF (compD true (s, 0)) else
  if op = 125 then resF (charGD x (s, 0)) else
  if op = 126 then resF (bcharD x (s, 0)) else
  if op = 127 then resF (parD x (s, 0)) else
  if op = 128 then resF (lineD x (s, 0)) else
  if op = 129 then resF (quoteD x (s, 0)) else
  (zeroP, 0, false)
theorem doD_mk {x : Sx} {s : Ps} {op : Int} (h : op = 110 ∨ op = 111 ∨ op = 112 ∨ op = 113 ∨ op = 114 ∨ op = 115 ∨ op = 116 ∨ op = 117) : doD x s op = mkD x s op ∧ (mkD x s op).2.2 = true := by
  rcases h with rfl | rfl | rfl | rfl | rfl | rfl | rfl | rfl
  · exact ⟨by unfold doD mkD; simp only [Int.reduceEq, if_true, if_false], by unfold mkD; simp only [Int.reduceEq, if_true, if_false]; exact res_true _⟩
  · exact ⟨by unfold doD mkD; simp only [Int.reduceEq, if_true, if_false], by unfold mkD; simp only [Int.reduceEq, if_true, if_false]; exact res_true _⟩
  · exact ⟨by unfold doD mkD; simp only [Int.reduceEq, if_true, if_false], by unfold mkD; simp only [Int.reduceEq, if_true, if_false]; exact res_true _⟩
  · exact ⟨by unfold doD mkD; simp only [Int.reduceEq, if_true, if_false], by unfold mkD; simp only [Int.reduceEq, if_true, if_false]; exact res_true _⟩
  · exact ⟨by unfold doD mkD; simp only [Int.reduceEq, if_true, if_false], by unfold mkD; simp only [Int.reduceEq, if_true, if_false]; exact res_true _⟩
  · exact ⟨by unfold doD mkD; simp only [Int.reduceEq, if_true, if_false], by unfold mkD; simp only [Int.reduceEq, if_true, if_false]; exact res_true _⟩
  · exact ⟨by unfold doD mkD; simp only [Int.reduceEq, if_true, if_false], by unfold mkD; simp only [Int.reduceEq, if_true, if_false]; exact res_true _⟩
  · exact ⟨by unfold doD mkD; simp only [Int.reduceEq, if_true, if_false], by unfold mkD; simp only [Int.reduceEq, if_true, if_false]; exact res_true _⟩
theorem doD_rd {x : Sx} {s : Ps} {op : Int} (h : op ≠ 110 ∧ op ≠ 111 ∧ op ≠ 112 ∧ op ≠ 113 ∧ op ≠ 114 ∧ op ≠ 115 ∧ op ≠ 116 ∧ op ≠ 117) : doD x s op = rdD x s op := by
  obtain ⟨h110, h111, h112, h113, h114, h115, h116, h117⟩ := h
  unfold doD rdD
  rw [if_neg h110, if_neg h111, if_neg h112, if_neg h113, if_neg h114, if_neg h115, if_neg h116, if_neg h117]
set_option maxRecDepth 100000 in
theorem RMakes_any (op : Int) (q : Ad) (s : Ps) (x : Sx) (s' : Ps) (e' : Int) (b : Bool) (w : World) (hr : mkD x s op = (s', e', b)) (hp : RdP w q s) (hsz : x.src.size ≤ 200) (hz : SzD s) (h0 : -9223372036854775808 ≤ s.here) (h1 : s.here ≤ 9223372036854775807) :
    Calls Tryz.prog 26 #[stV q s, suV x, .int .i64 op] w fun r w' => ∃ q', r = .returned (.tuple #[stV q' s', .int .i64 e', .bool b]) ∧ Res w.heap.size q s w' q' s' ∧ Below w.heap.size w w' := by
  have key : ∀ y : Ps × Int, (∀ s2 e2, fin y = (s2, e2) → Calls Tryz.prog 26 #[stV q s, suV x, .int .i64 op] w fun r w' => ∃ q', r = .returned (.tuple #[stV q' s2, .int .i64 e2, .bool true]) ∧ Res w.heap.size q s w' q' s2 ∧ Below w.heap.size w w') → resF y = (s', e', b) → Calls Tryz.prog 26 #[stV q s, suV x, .int .i64 op] w fun r w' => ∃ q', r = .returned (.tuple #[stV q' s', .int .i64 e', .bool b]) ∧ Res w.heap.size q s w' q' s' ∧ Below w.heap.size w w' := fun y h e => by
    rw [resF_fin] at e
    injection e with e1 e2
    injection e2 with e2 e3
    rw [← e3]
    exact h s' e' (by rw [← e1, ← e2])
  unfold mkD at hr
  by_cases h110 : op = 110
  · subst h110
    simp only [Int.reduceEq, if_true, if_false] at hr
    exact key _ (fun s2 e2 h => RMakes_110 q s x s2 e2 w h hp hsz hz h0 h1) hr
  rw [if_neg h110] at hr
  by_cases h111 : op = 111
  · subst h111
    simp only [Int.reduceEq, if_true, if_false] at hr
    exact key _ (fun s2 e2 h => RMakes_111 q s x s2 e2 w h hp hsz hz h0 h1) hr
  rw [if_neg h111] at hr
  by_cases h112 : op = 112
  · subst h112
    simp only [Int.reduceEq, if_true, if_false] at hr
    exact key _ (fun s2 e2 h => RMakes_112 q s x s2 e2 w h hp hsz hz h0 h1) hr
  rw [if_neg h112] at hr
  by_cases h113 : op = 113
  · subst h113
    simp only [Int.reduceEq, if_true, if_false] at hr
    exact key _ (fun s2 e2 h => RMakes_113 q s x s2 e2 w h hp hsz hz h0 h1) hr
  rw [if_neg h113] at hr
  by_cases h114 : op = 114
  · subst h114
    simp only [Int.reduceEq, if_true, if_false] at hr
    exact key _ (fun s2 e2 h => RMakes_114 q s x s2 e2 w h hp hsz hz h0 h1) hr
  rw [if_neg h114] at hr
  by_cases h115 : op = 115
  · subst h115
    simp only [Int.reduceEq, if_true, if_false] at hr
    exact key _ (fun s2 e2 h => RMakes_115 q s x s2 e2 w h hp hsz hz h0 h1) hr
  rw [if_neg h115] at hr
  by_cases h116 : op = 116
  · subst h116
    simp only [Int.reduceEq, if_true, if_false] at hr
    exact key _ (fun s2 e2 h => RMakes_116 q s x s2 e2 w h hp hsz hz h0 h1) hr
  rw [if_neg h116] at hr
  by_cases h117 : op = 117
  · subst h117
    simp only [if_true] at hr
    exact key _ (fun s2 e2 h => RMakes_117 q s x s2 e2 w h hp hsz hz h0 h1) hr
  rw [if_neg h117] at hr
  injection hr with h1 h2
  injection h2 with h2 h3
  subst h1 h2 h3
  refine (RMakes_none op q s x w ⟨h110, h111, h112, h113, h114, h115, h116, h117⟩ hp).mono ?_
  rintro r w' ⟨rfl, hb⟩
  exact ⟨nilA, rfl, Res.zero _ _ _ _, hb⟩
set_option maxRecDepth 100000 in
theorem RReads_any (op : Int) (q : Ad) (s : Ps) (x : Sx) (s' : Ps) (e' : Int) (b : Bool) (w : World) (hr : rdD x s op = (s', e', b)) (hp : RdP w q s) (hsz : x.src.size ≤ 200) (hz : SzD s) (h0 : -9223372036854775808 ≤ s.here) (h1 : s.here ≤ 9223372036854775807) :
    Calls Tryz.prog 27 #[stV q s, suV x, .int .i64 op] w fun r w' => ∃ q', r = .returned (.tuple #[stV q' s', .int .i64 e', .bool b]) ∧ Res w.heap.size q s w' q' s' ∧ Below w.heap.size w w' := by
  have key : ∀ y : Ps × Int, (∀ s2 e2, fin y = (s2, e2) → Calls Tryz.prog 27 #[stV q s, suV x, .int .i64 op] w fun r w' => ∃ q', r = .returned (.tuple #[stV q' s2, .int .i64 e2, .bool true]) ∧ Res w.heap.size q s w' q' s2 ∧ Below w.heap.size w w') → resF y = (s', e', b) → Calls Tryz.prog 27 #[stV q s, suV x, .int .i64 op] w fun r w' => ∃ q', r = .returned (.tuple #[stV q' s', .int .i64 e', .bool b]) ∧ Res w.heap.size q s w' q' s' ∧ Below w.heap.size w w' := fun y h e => by
    rw [resF_fin] at e
    injection e with e1 e2
    injection e2 with e2 e3
    rw [← e3]
    exact h s' e' (by rw [← e1, ← e2])
  unfold rdD at hr
  by_cases h118 : op = 118
  · subst h118
    simp only [Int.reduceEq, if_true, if_false] at hr
    exact key _ (fun s2 e2 h => RReads_118 q s x s2 e2 w h hp hsz hz h0 h1) hr
  rw [if_neg h118] at hr
  by_cases h119 : op = 119
  · subst h119
    simp only [Int.reduceEq, if_true, if_false] at hr
    exact key _ (fun s2 e2 h => RReads_119 q s x s2 e2 w h hp hsz hz h0 h1) hr
  rw [if_neg h119] at hr
  by_cases h120 : op = 120
  · subst h120
    simp only [Int.reduceEq, if_true, if_false] at hr
    exact key _ (fun s2 e2 h => RReads_120 q s x s2 e2 w h hp hsz hz h0 h1) hr
  rw [if_neg h120] at hr
  by_cases h121 : op = 121
  · subst h121
    simp only [Int.reduceEq, if_true, if_false] at hr
    exact key _ (fun s2 e2 h => RReads_121 q s x s2 e2 w h hp hsz hz h0 h1) hr
  rw [if_neg h121] at hr
  by_cases h122 : op = 122
  · subst h122
    simp only [Int.reduceEq, if_true, if_false] at hr
    exact key _ (fun s2 e2 h => RReads_122 q s x s2 e2 w h hp hsz hz h0 h1) hr
  rw [if_neg h122] at hr
  by_cases h123 : op = 123
  · subst h123
    simp only [Int.reduceEq, if_true, if_false] at hr
    exact key _ (fun s2 e2 h => RReads_123 q s x s2 e2 w h hp hsz hz h0 h1) hr
  rw [if_neg h123] at hr
  by_cases h125 : op = 125
  · subst h125
    simp only [Int.reduceEq, if_true, if_false] at hr
    exact key _ (fun s2 e2 h => RReads_125 q s x s2 e2 w h hp hsz hz h0 h1) hr
  rw [if_neg h125] at hr
  by_cases h126 : op = 126
  · subst h126
    simp only [Int.reduceEq, if_true, if_false] at hr
    exact key _ (fun s2 e2 h => RReads_126 q s x s2 e2 w h hp hsz hz h0 h1) hr
  rw [if_neg h126] at hr
  by_cases h127 : op = 127
  · subst h127
    simp only [Int.reduceEq, if_true, if_false] at hr
    exact key _ (fun s2 e2 h => RReads_127 q s x s2 e2 w h hp hsz hz h0 h1) hr
  rw [if_neg h127] at hr
  by_cases h128 : op = 128
  · subst h128
    simp only [Int.reduceEq, if_true, if_false] at hr
    exact key _ (fun s2 e2 h => RReads_128 q s x s2 e2 w h hp hsz hz h0 h1) hr
  rw [if_neg h128] at hr
  by_cases h129 : op = 129
  · subst h129
    simp only [if_true] at hr
    exact key _ (fun s2 e2 h => RReads_129 q s x s2 e2 w h hp hsz hz h0 h1) hr
  rw [if_neg h129] at hr
  injection hr with h1 h2
  injection h2 with h2 h3
  subst h1 h2 h3
  refine (RReads_none op q s x w ⟨h118, h119, h120, h121, h122, h123, h125, h126, h127, h128, h129⟩ hp).mono ?_
  rintro r w' ⟨rfl, hb⟩
  exact ⟨nilA, rfl, Res.zero _ _ _ _, hb⟩
set_option maxRecDepth 100000 in
set_option maxHeartbeats 4000000 in
theorem RDo_any (op : Int) (q : Ad) (s : Ps) (x : Sx) (s' : Ps) (e' : Int) (b : Bool) (w : World) (hr : doD x s op = (s', e', b)) (hp : RdP w q s) (hsz : x.src.size ≤ 200) (hz : SzD s) (h0 : -9223372036854775808 ≤ s.here) (h1 : s.here ≤ 9223372036854775807) :
    Calls Tryz.prog 11 #[stV q s, suV x, .int .i64 op] w fun r w' => ∃ q', r = .returned (.tuple #[stV q' s', .int .i64 e', .bool b]) ∧ Res w.heap.size q s w' q' s' ∧ Below w.heap.size w w' := by
  by_cases hm : op = 110 ∨ op = 111 ∨ op = 112 ∨ op = 113 ∨ op = 114 ∨ op = 115 ∨ op = 116 ∨ op = 117
  · obtain ⟨hd, hb⟩ := doD_mk (x := x) (s := s) hm
    rw [hd] at hr
    rw [hr] at hb
    simp only at hb
    subst hb
    have HR := Lib.hid hr
    have HZ := Lib.hid hz
    have HH := Lib.hid (And.intro h0 h1)
    clear hr hz h0 h1 hd hm
    have hB0 := below_two (below_two (below_lit w (.cells (stL q s).toArray 28)) (below_lit _ (.cells (suL x).toArray 30))) (below_lit _ (.cells (stL nilA zeroP).toArray 28))
    have hS : Bx (((w.alloc (.cells (stL q s).toArray 28)).alloc (.cells (suL x).toArray 30)).alloc (.cells (stL nilA zeroP).toArray 28)) w.heap.size 28 (stL q s) := ((Bx.new w _ _ _ _ rfl rfl).alloc _).alloc _
    have hX : Bx (((w.alloc (.cells (stL q s).toArray 28)).alloc (.cells (suL x).toArray 30)).alloc (.cells (stL nilA zeroP).toArray 28)) (w.heap.size + 1) 30 (suL x) := (Bx.new _ _ _ _ _ (by simp) rfl).alloc _
    have hR : Bx (((w.alloc (.cells (stL q s).toArray 28)).alloc (.cells (suL x).toArray 30)).alloc (.cells (stL nilA zeroP).toArray 28)) (w.heap.size + 2) 28 (stL nilA zeroP) := Bx.new _ _ _ _ _ (by simp) rfl
    obtain ⟨W, hW⟩ : ∃ W, (((w.alloc (.cells #[.slice q.m s.mem.length q.mc, .slice q.d s.data.length q.dc, .slice q.r s.ret.length q.rc, .slice q.c s.ctl.length q.cc, .slice q.w s.words.length q.wc, .slice q.s s.spots.length q.sc, .slice q.o s.out.length q.oc, .int .i64 s.ip, .int .i64 s.here, .int .i64 s.pos, .int .i64 s.tok, .int .i64 s.inp, .int .i64 s.err, .bool s.comp, .bool s.halt] 28)).alloc (.cells #[.string x.src, .slice x.iA x.iN x.iC, .int .i64 x.size, .int .i64 x.depth, .int .i64 x.room] 30)).alloc (.cells #[.slice none 0 0, .slice none 0 0, .slice none 0 0, .slice none 0 0, .slice none 0 0, .slice none 0 0, .slice none 0 0, .int .i64 0, .int .i64 0, .int .i64 0, .int .i64 0, .int .i64 0, .int .i64 0, .bool false, .bool false] 28)) = W := ⟨_, rfl⟩
    have HB0 : Hid (Below w.heap.size w W) := Lib.hid (by rw [← hW]; exact hB0)
    have HA0 : Hid (Bx W w.heap.size 28 (stL q s)) := Lib.hid (by rw [← hW]; exact hS)
    have HX0 : Hid (Bx W (w.heap.size + 1) 30 (suL x)) := Lib.hid (by rw [← hW]; exact hX)
    have HR0 : Hid (Bx W (w.heap.size + 2) 28 (stL nilA zeroP)) := Lib.hid (by rw [← hW]; exact hR)
    have HP : Hid (RdP w q s) := Lib.hid hp
    have HWW := Lib.hid hW
    clear hp hB0 hS hX hR hW
    rw [stV_eq q s, suV_eq x]
    go_enter Tryz.func11, Tryz.ntmps11
    go_upto_region 1 with fail
    rw [HWW.out]
    have hW2 : w.heap.size + 2 < W.heap.size := HR0.out.lt
    go_wp2_with (first
      | (refine wp_loadS rfl 28 _ rfl w.heap.size rfl 28 _ _ HA0.out Tryz.underlying28 rfl 15 infoSt rfl ?_)
      | (refine wp_loadS rfl 30 _ rfl (w.heap.size + 1) rfl 30 _ _ HX0.out Tryz.underlying30 rfl 5 infoSx rfl ?_))
    refine (RMakes_any op q s x s' e' true W HR.out (HP.out.below HB0.out) hsz HZ.out HH.out.1 HH.out.2).mono ?_
    rintro r w3 ⟨q3, rfl, hres, hb⟩
    have HRES : Hid (Res W.heap.size q s w3 q3 s') := Lib.hid hres
    have HB3 := Lib.hid (below_two HB0.out hb)
    have HR3 := Lib.hid (HR0.out.below hb)
    clear hres hb
    have hw3 : w.heap.size + 2 < w3.heap.size := HR3.out.lt
    have HBL := Lib.hid (below_lit w3 (.cells (stL nilA zeroP).toArray 28))
    have HBX : Hid (Bx (w3.alloc (.cells (stL nilA zeroP).toArray 28)) w3.heap.size 28 (stL nilA zeroP)) := Lib.hid (Bx.new w3 _ _ _ _ rfl rfl)
    go_wp2_with (refine wp_storeS rfl 28 _ _ rfl w3.heap.size (stL q3 s') rfl rfl 28 (stL nilA zeroP) HBX.out 15 infoSt rfl rfl (stL_one _ _) ?_)
    intro w5 hg5 hw5
    obtain ⟨g, hg⟩ : ∃ g, w3.heap.size = g := ⟨_, rfl⟩
    have HG5 : Hid (Bx w5 g 28 (stL q3 s')) := Lib.hid (by rw [← hg]; exact hg5)
    have HB5 := Lib.hid (below_grown (below_two HB3.out HBL.out) (below_two HB3.out HBL.out).size hw5 (by omega))
    have HR5 := Lib.hid ((HR3.out.below HBL.out).grown hw5 (by omega))
    have HP5 : Hid (RdP w5 q3 s') := Lib.hid ((HRES.out.rd.below HBL.out).grown HRES.out.rd.lies hw5 (by omega))
    have hw35 : w3.heap.size ≤ w5.heap.size := Nat.le_trans HBL.out.size hw5.size
    rw [hg]
    rw [hg] at hw3
    clear hg5 hw5 hg HBX HBL
    go_wp2_with (first
      | (refine wp_loadS rfl 28 _ rfl g rfl 28 _ _ HG5.out Tryz.underlying28 rfl 15 infoSt rfl ?_)
      | (refine wp_storeS rfl 28 _ _ rfl (w.heap.size + 2) (stL q3 s') rfl rfl 28 _ HR5.out 15 infoSt rfl rfl (stL_one _ _) ?_))
    intro w6 hg6 hw6
    have HG := Lib.hid hg6
    have HB6 := Lib.hid (below_grown HB5.out HB5.out.size hw6 (by omega))
    have HP6 := Lib.hid (HP5.out.grown (HRES.out.lies _ HP.out.lies) hw6 (by omega))
    have HL6 : Hid (∀ S : Nat → Prop, Lies q s S → Lies q3 s' (fun b => S b ∨ w.heap.size ≤ b)) := Lib.hid (fun S hS => (HRES.out.lies S hS).mono (fun b hb => hb.imp id (fun h => by omega)))
    clear hg6 hw6
    go_wp2
    refine bodyPost_ret (results_S3 rfl _ _ (w.heap.size + 2) 28 (stL q3 s') _ rfl HG.out Tryz.underlying28 rfl 15 infoSt rfl _ _ rfl rfl) rfl ?_
    exact ⟨q3, rfl, ⟨HP6.out, HL6.out⟩, HB6.out⟩

  · have hm' : op ≠ 110 ∧ op ≠ 111 ∧ op ≠ 112 ∧ op ≠ 113 ∧ op ≠ 114 ∧ op ≠ 115 ∧ op ≠ 116 ∧ op ≠ 117 := by
      refine ⟨?_, ?_, ?_, ?_, ?_, ?_, ?_, ?_⟩ <;> (intro h; exact hm (by simp [h]))
    rw [doD_rd hm'] at hr
    have hn : mkD x s op = (zeroP, 0, false) := by
      obtain ⟨h110, h111, h112, h113, h114, h115, h116, h117⟩ := hm'
      unfold mkD
      rw [if_neg h110, if_neg h111, if_neg h112, if_neg h113, if_neg h114, if_neg h115, if_neg h116, if_neg h117]
    have HR := Lib.hid hr
    have HN := Lib.hid hn
    have HZ := Lib.hid hz
    have HH := Lib.hid (And.intro h0 h1)
    clear hr hz h0 h1 hn hm hm'
    have hB0 := below_two (below_two (below_lit w (.cells (stL q s).toArray 28)) (below_lit _ (.cells (suL x).toArray 30))) (below_lit _ (.cells (stL nilA zeroP).toArray 28))
    have hS : Bx (((w.alloc (.cells (stL q s).toArray 28)).alloc (.cells (suL x).toArray 30)).alloc (.cells (stL nilA zeroP).toArray 28)) w.heap.size 28 (stL q s) := ((Bx.new w _ _ _ _ rfl rfl).alloc _).alloc _
    have hX : Bx (((w.alloc (.cells (stL q s).toArray 28)).alloc (.cells (suL x).toArray 30)).alloc (.cells (stL nilA zeroP).toArray 28)) (w.heap.size + 1) 30 (suL x) := (Bx.new _ _ _ _ _ (by simp) rfl).alloc _
    have hR : Bx (((w.alloc (.cells (stL q s).toArray 28)).alloc (.cells (suL x).toArray 30)).alloc (.cells (stL nilA zeroP).toArray 28)) (w.heap.size + 2) 28 (stL nilA zeroP) := Bx.new _ _ _ _ _ (by simp) rfl
    obtain ⟨W, hW⟩ : ∃ W, (((w.alloc (.cells #[.slice q.m s.mem.length q.mc, .slice q.d s.data.length q.dc, .slice q.r s.ret.length q.rc, .slice q.c s.ctl.length q.cc, .slice q.w s.words.length q.wc, .slice q.s s.spots.length q.sc, .slice q.o s.out.length q.oc, .int .i64 s.ip, .int .i64 s.here, .int .i64 s.pos, .int .i64 s.tok, .int .i64 s.inp, .int .i64 s.err, .bool s.comp, .bool s.halt] 28)).alloc (.cells #[.string x.src, .slice x.iA x.iN x.iC, .int .i64 x.size, .int .i64 x.depth, .int .i64 x.room] 30)).alloc (.cells #[.slice none 0 0, .slice none 0 0, .slice none 0 0, .slice none 0 0, .slice none 0 0, .slice none 0 0, .slice none 0 0, .int .i64 0, .int .i64 0, .int .i64 0, .int .i64 0, .int .i64 0, .int .i64 0, .bool false, .bool false] 28)) = W := ⟨_, rfl⟩
    have HB0 : Hid (Below w.heap.size w W) := Lib.hid (by rw [← hW]; exact hB0)
    have HA0 : Hid (Bx W w.heap.size 28 (stL q s)) := Lib.hid (by rw [← hW]; exact hS)
    have HX0 : Hid (Bx W (w.heap.size + 1) 30 (suL x)) := Lib.hid (by rw [← hW]; exact hX)
    have HR0 : Hid (Bx W (w.heap.size + 2) 28 (stL nilA zeroP)) := Lib.hid (by rw [← hW]; exact hR)
    have HP : Hid (RdP w q s) := Lib.hid hp
    have HWW := Lib.hid hW
    clear hp hB0 hS hX hR hW
    rw [stV_eq q s, suV_eq x]
    go_enter Tryz.func11, Tryz.ntmps11
    go_upto_region 1 with fail
    rw [HWW.out]
    have hW2 : w.heap.size + 2 < W.heap.size := HR0.out.lt
    go_wp2_with (first
      | (refine wp_loadS rfl 28 _ rfl w.heap.size rfl 28 _ _ HA0.out Tryz.underlying28 rfl 15 infoSt rfl ?_)
      | (refine wp_loadS rfl 30 _ rfl (w.heap.size + 1) rfl 30 _ _ HX0.out Tryz.underlying30 rfl 5 infoSx rfl ?_))
    refine (RMakes_any op q s x zeroP 0 false W HN.out (HP.out.below HB0.out) hsz HZ.out HH.out.1 HH.out.2).mono ?_
    rintro r w3 ⟨q3, rfl, hres, hb⟩
    have HA3 := Lib.hid (HA0.out.below hb)
    have HX3 := Lib.hid (HX0.out.below hb)
    have HRES : Hid (Res W.heap.size q s w3 q3 zeroP) := Lib.hid hres
    have HB3 := Lib.hid (below_two HB0.out hb)
    have HR3 := Lib.hid (HR0.out.below hb)
    clear hres hb
    have hw3 : w.heap.size + 2 < w3.heap.size := HR3.out.lt
    have HBL := Lib.hid (below_lit w3 (.cells (stL nilA zeroP).toArray 28))
    have HBX : Hid (Bx (w3.alloc (.cells (stL nilA zeroP).toArray 28)) w3.heap.size 28 (stL nilA zeroP)) := Lib.hid (Bx.new w3 _ _ _ _ rfl rfl)
    go_wp2_with (refine wp_storeS rfl 28 _ _ rfl w3.heap.size (stL q3 zeroP) rfl rfl 28 (stL nilA zeroP) HBX.out 15 infoSt rfl rfl (stL_one _ _) ?_)
    intro w5 hg5 hw5
    obtain ⟨g, hg⟩ : ∃ g, w3.heap.size = g := ⟨_, rfl⟩
    have HG5 : Hid (Bx w5 g 28 (stL q3 zeroP)) := Lib.hid (by rw [← hg]; exact hg5)
    have HB5 := Lib.hid (below_grown (below_two HB3.out HBL.out) (below_two HB3.out HBL.out).size hw5 (by omega))
    have HR5 := Lib.hid ((HR3.out.below HBL.out).grown hw5 (by omega))
    have HP5 : Hid (RdP w5 q3 zeroP) := Lib.hid ((HRES.out.rd.below HBL.out).grown HRES.out.rd.lies hw5 (by omega))
    have HA5 := Lib.hid ((HA3.out.below HBL.out).grown hw5 (by omega))
    have HX5 := Lib.hid ((HX3.out.below HBL.out).grown hw5 (by omega))
    have hw35 : w3.heap.size ≤ w5.heap.size := Nat.le_trans HBL.out.size hw5.size
    rw [hg]
    rw [hg] at hw3
    clear hg5 hw5 hg HBX HBL
    go_wp2_with (first
      | (refine wp_loadS rfl 28 _ rfl w.heap.size rfl 28 _ _ HA5.out Tryz.underlying28 rfl 15 infoSt rfl ?_)
      | (refine wp_loadS rfl 30 _ rfl (w.heap.size + 1) rfl 30 _ _ HX5.out Tryz.underlying30 rfl 5 infoSx rfl ?_))
    refine (RReads_any op q s x s' e' b w5 HR.out (HP.out.below HB5.out) hsz HZ.out HH.out.1 HH.out.2).mono ?_
    rintro r w6 ⟨q6, rfl, hres, hb⟩
    have HRS := Lib.hid hres
    have HB6 := Lib.hid (below_two HB5.out hb)
    have HR6 := Lib.hid (HR5.out.below hb)
    have hw25 : w.heap.size + 2 < w5.heap.size := HR5.out.lt
    clear hres hb
    go_wp2_with (refine wp_storeS rfl 28 _ _ rfl (w.heap.size + 2) (stL q6 s') rfl rfl 28 _ HR6.out 15 infoSt rfl rfl (stL_one _ _) ?_)
    intro w7 hg7 hw7
    have HG := Lib.hid hg7
    have HB7 := Lib.hid (below_grown HB6.out HB6.out.size hw7 (by omega))
    have HP7 := Lib.hid (HRS.out.rd.grown (HRS.out.lies _ HP.out.lies) hw7 (by omega))
    clear hg7 hw7
    go_wp2
    refine bodyPost_ret (results_S3 rfl _ _ (w.heap.size + 2) 28 (stL q6 s') _ rfl HG.out Tryz.underlying28 rfl 15 infoSt rfl _ _ rfl rfl) rfl ?_
    exact ⟨q6, rfl, ⟨HP7.out, fun S hS => (HRS.out.lies S hS).mono (fun b hb => hb.imp id (fun h => by omega))⟩, HB7.out⟩

end Go.Proofs.YtappfhjknihboaaGreatDoor
