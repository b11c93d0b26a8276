/-  -/
import Derived.Test.YtappfhjknihboaaGreatDoorMO
import Derived.Test.YtappfhjknihboaaGreatDoorML
import Derived.Test.YtappfhjknihboaaGreatDoorMG
import Derived.Test.YtappfhjknihboaaGreatDoorMF
import Derived.Test.YtappfhjknihboaaGreatDoorMH
import Derived.Test.YtappfhjknihboaaGreatDoorMK
import Derived.Test.YtappfhjknihboaaGreatDoorMN
import Derived.Test.YtappfhjknihboaaGreatDoorMJ

/- The reference's name and give. -/
namespace Go.Proofs.YtappfhjknihboaaGreatDoor
open Go.RowKit

/-- What is handed back: where something is thrown, the empty state. -/
def fin (y : Ps × Int) : Ps × Int := if y.2 = 0 then (y.1, 0) else (zeroP, y.2)
theorem resF_fin (y : Ps × Int) : resF y = ((fin y).1, (fin y).2, true) := by
  unfold resF fin
  split <;> rfl
theorem fin_err (y : Ps × Int) : (fin y).2 = y.2 := by
  unfold fin
  split
  · rename_i h; exact h.symm
  · rfl
set_option maxRecDepth 100000 in
set_option maxHeartbeats 4000000 in
theorem RName_go (q : Ad) (s : Ps) (x : Sx) (tok : ByteArray) (m : Int) (w : World) (htok : tokS x s = tok) (hm : mayN tok.size = m) (hp : RdP w q s) (hsz : x.src.size ≤ 200) :
    Calls Tryz.prog 113 #[stV q s, suV x] w fun e w' => e = .returned (.tuple #[stV q { s with pos := (tokB x.src s.pos : Int) }, .string tok, .int .i64 m]) ∧ Below w.heap.size w w' := by
  have HTK := Lib.hid htok
  have HTS := Lib.hid (tok_size x s hsz)
  have hs2 : x.src.size ≤ maxLen := by unfold maxLen; omega
  have HM := Lib.hid hm
  clear htok hm
  have hB0 := below_two (below_two (below_lit w (.cells (stL q s).toArray 28)) (below_lit _ (.cells (suL x).toArray 30))) (below_lit _ (.cells (stL nilA zeroP).toArray 28))
  have hS : Bx (((w.alloc (.cells (stL q s).toArray 28)).alloc (.cells (suL x).toArray 30)).alloc (.cells (stL nilA zeroP).toArray 28)) w.heap.size 28 (stL q s) := ((Bx.new w _ _ _ _ rfl rfl).alloc _).alloc _
  have hX : Bx (((w.alloc (.cells (stL q s).toArray 28)).alloc (.cells (suL x).toArray 30)).alloc (.cells (stL nilA zeroP).toArray 28)) (w.heap.size + 1) 30 (suL x) := (Bx.new _ _ _ _ _ (by simp) rfl).alloc _
  have hR : Bx (((w.alloc (.cells (stL q s).toArray 28)).alloc (.cells (suL x).toArray 30)).alloc (.cells (stL nilA zeroP).toArray 28)) (w.heap.size + 2) 28 (stL nilA zeroP) := Bx.new _ _ _ _ _ (by simp) rfl
  obtain ⟨W, hW⟩ : ∃ W, (((w.alloc (.cells #[.slice q.m s.mem.length q.mc, .slice q.d s.data.length q.dc, .slice q.r s.ret.length q.rc, .slice q.c s.ctl.length q.cc, .slice q.w s.words.length q.wc, .slice q.s s.spots.length q.sc, .slice q.o s.out.length q.oc, .int .i64 s.ip, .int .i64 s.here, .int .i64 s.pos, .int .i64 s.tok, .int .i64 s.inp, .int .i64 s.err, .bool s.comp, .bool s.halt] 28)).alloc (.cells #[.string x.src, .slice x.iA x.iN x.iC, .int .i64 x.size, .int .i64 x.depth, .int .i64 x.room] 30)).alloc (.cells #[.slice none 0 0, .slice none 0 0, .slice none 0 0, .slice none 0 0, .slice none 0 0, .slice none 0 0, .slice none 0 0, .int .i64 0, .int .i64 0, .int .i64 0, .int .i64 0, .int .i64 0, .int .i64 0, .bool false, .bool false] 28)) = W := ⟨_, rfl⟩
  have HB0 : Hid (Below w.heap.size w W) := Lib.hid (by rw [← hW]; exact hB0)
  have HA0 : Hid (Bx W w.heap.size 28 (stL q s)) := Lib.hid (by rw [← hW]; exact hS)
  have HX0 : Hid (Bx W (w.heap.size + 1) 30 (suL x)) := Lib.hid (by rw [← hW]; exact hX)
  have HR0 : Hid (Bx W (w.heap.size + 2) 28 (stL nilA zeroP)) := Lib.hid (by rw [← hW]; exact hR)
  have HP : Hid (RdP w q s) := Lib.hid hp
  have HWW := Lib.hid hW
  clear hp hB0 hS hX hR hW
  rw [stV_eq q s, suV_eq x]
  go_enter Tryz.func113, Tryz.ntmps113
  go_upto_region 1 with fail
  rw [HWW.out]
  have x0 : W.cell? ⟨w.heap.size + 1, 0, none⟩ = some (.string x.src) := HX0.out.cell 0
  have c9 : W.cell? ⟨w.heap.size, 9, none⟩ = some (.int .i64 s.pos) := HA0.out.cell 9
  go_wp2_with fail
  refine (L06.RToken_any x.src s.pos W hs2).mono ?_
  rintro r w1 ⟨rfl, rfl⟩
  rw [show x.src.extract (tokA x.src s.pos) (tokB x.src s.pos) = tok from HTK.out]
  go_wp2_with (refine wp_storeF rfl 3 _ _ rfl w.heap.size 9 _ rfl rfl rfl 28 _ HA0.out 15 rfl (by decide) info1i ?_)
  intro w2 hg2 hw2
  have HA2 : Hid (Bx w2 w.heap.size 28 (stL q { s with pos := (tokB x.src s.pos : Int) })) := Lib.hid hg2
  have HR2 := Lib.hid (HR0.out.grown hw2 (by omega))
  have HB2 := Lib.hid (below_grown HB0.out HB0.out.size hw2 (Nat.le_refl _))
  have hlt := HR2.out.lt
  clear hg2 hw2 x0 c9
  go_upto_region 3 with fail
  refine wp_region_one (w.heap.size + 2) 28 (stL q { s with pos := (tokB x.src s.pos : Int) }) 4 [fun v _ => v = stV q { s with pos := (tokB x.src s.pos : Int) }, fun v _ => v = .string tok, fun v _ => v = .string tok, fun v _ => v = .int .i64 m, fun _ _ => True, fun v _ => v = .string tok, fun v _ => v = .int .i64 m] (fun | 3 => [2] | 4 => [0] | 5 => [1] | 6 => [3] | _ => []) _ rfl rfl (by kernel_rfl) (by kernel_rfl) (by decide) rfl ?_ ?_ ?_
  · intro i hi v u u' h hg
    match i, hi, h with
    | 0, _, h => exact h
    | 1, _, h => exact h
    | 2, _, h => exact h
    | 3, _, h => exact h
    | 4, _, h => exact h
    | 5, _, h => exact h
    | 6, _, h => exact h
    | n + 7, hi, _ => exact absurd hi (by simp)
  · refine ⟨?_, ?_, ?_, ?_, ?_, ?_, ?_, trivial⟩
    · intro a v hg hj hd hf
      exact rg_load 28 _ rfl w.heap.size (hf 2 (by decide)) 28 _ _ (HA2.out.grown hg (by omega)) Tryz.underlying28 rfl 15 infoSt rfl ⟨_, rfl, .inl ⟨Below.refl _ _, by decide⟩, rfl⟩
    · intro a v hg hj hd hf
      exact rg_move _ rfl _ (hf 7 (by decide)) ⟨_, rfl, .inl ⟨Below.refl _ _, by decide⟩, rfl⟩
    · intro a v hg hj hd hf
      exact rg_move _ rfl _ (hf 7 (by decide)) ⟨_, rfl, .inl ⟨Below.refl _ _, by decide⟩, rfl⟩
    · intro a v hg hj hd hf
      obtain ⟨_, e, rfl⟩ := hd 2 (by simp)
      refine rg_call 136 _ _ rfl #[.string tok] (by simp [e 23 rfl]) (by go_simp) _ (RMay_any tok v (by have := HTS.out; rw [HTK.out] at this; unfold maxLen; omega)) ?_
      rintro r u ⟨rfl, rfl⟩
      exact ⟨_, rfl, _, rfl, .inl ⟨Below.refl _ _, by decide⟩, congrArg (Value.int .i64) HM.out⟩
    · intro a v hg hj hd hf
      obtain ⟨_, e, rfl⟩ := hd 0 (by simp)
      refine rg_store 28 _ _ rfl (w.heap.size + 2) (stL q { s with pos := (tokB x.src s.pos : Int) }) (hf 4 (by decide)) (e 21 rfl) 28 (stL nilA zeroP) (HR2.out.below (hj.resolve_right (fun h => h.1 rfl))) 15 infoSt rfl rfl rfl ?_
      intro u hbx hgr
      exact ⟨_, rfl, .inr ⟨rfl, hgr, hbx⟩, trivial⟩
    · intro a v hg hj hd hf
      obtain ⟨_, e, rfl⟩ := hd 1 (by simp)
      exact rg_assign _ rfl _ (e 22 rfl) ⟨_, rfl, .inl ⟨Below.refl _ _, by decide⟩, rfl⟩
    · intro a v hg hj hd hf
      obtain ⟨_, e, rfl⟩ := hd 3 (by simp)
      exact rg_assign _ rfl _ (e 24 rfl) ⟨_, rfl, .inl ⟨Below.refl _ _, by decide⟩, rfl⟩
  · intro V v hg hbx h
    have h5 : V 5 = .string tok := h 5 (by decide)
    have h6 : V 6 = .int .i64 m := h 6 (by decide)
    have HBX := Lib.hid hbx
    have HB3 := Lib.hid (below_grown HB2.out HB2.out.size hg (by omega))
    clear hbx hg h
    simp only [List.map_cons, List.map_nil, putD, Act.put, List.setIfInBounds_toArray, List.set_cons_succ, List.set_cons_zero, Nat.reduceAdd, Nat.zero_add, h5, h6]
    go_wp2_with fail
    refine bodyPost_ret (results_S3 rfl _ _ (w.heap.size + 2) 28 (stL q { s with pos := (tokB x.src s.pos : Int) }) _ rfl HBX.out Tryz.underlying28 rfl 15 infoSt rfl _ _ rfl rfl) rfl ?_
    exact ⟨rfl, HB3.out⟩
theorem rpush_is (A B : Option Addr) (c cb n : Nat) (depth : Int) (l : List Int) (v : Int) (r : List Int) (t : Int) (w : World) (hn : l.length = n) (hr : L04.pushR l [v] depth = r) (ht : L04.pushE n 1 depth = t) (hx : RdI w .i64 A c l) (hy : RdI w .i64 B cb [v]) (hl : n ≤ 1000000) :
    Calls Tryz.prog 138 #[.slice A n c, .int .i64 depth, .slice B 1 cb] w fun e w' => ∃ A' c', e = .returned (.tuple #[.slice A' r.length c', .int .i64 t]) ∧ RdI w' .i64 A' c' r ∧ (0 < r.length → ∀ ad, A' = some ad → w.heap.size ≤ ad.block) ∧ Below w.heap.size w w' := by
  subst hn hr
  refine (L04.RPush_any A B c cb depth l [v] w hx hy (by simp; omega)).mono ?_
  rintro e w' ⟨x, rfl, ho, hb⟩
  obtain ⟨A', c', rfl, hr⟩ := Rd.own ho
  exact ⟨A', c', by rw [← ht]; rfl, hr, own_block_ge ho, hb⟩
set_option maxRecDepth 100000 in
set_option maxHeartbeats 4000000 in
theorem RGive_go (q : Ad) (s : Ps) (x : Sx) (v : Int) (s' : Ps) (e' : Int) (w : World) (hr : fin (giveD x (s, 0) v) = (s', e')) (hp : RdP w q s) (hl : s.data.length ≤ 1000000) :
    Calls Tryz.prog 115 #[stV q s, suV x, .int .i64 v] w fun e w' => ∃ q', e = .returned (.tuple #[stV q' s', .int .i64 e']) ∧ Res w.heap.size q s w' q' s' ∧ Below w.heap.size w w' := by
  obtain ⟨n, hn⟩ : ∃ n, s.data.length = n := ⟨_, rfl⟩
  obtain ⟨r1, hr1⟩ : ∃ r, L04.pushR s.data [v] x.depth = r := ⟨_, rfl⟩
  obtain ⟨t1, ht1⟩ : ∃ t, L04.pushE n 1 x.depth = t := ⟨_, rfl⟩
  unfold giveD at hr
  rw [if_pos rfl] at hr
  simp only at hr
  rw [hn] at hr hl
  have HN := Lib.hid hn
  have HR1 := Lib.hid hr1
  have HT1 := Lib.hid ht1
  have HR := Lib.hid hr
  clear hn hr1 ht1 hr
  have hB0 := below_two (below_two (below_lit w (.cells (stL q s).toArray 28)) (below_lit _ (.cells (suL x).toArray 30))) (below_lit _ (.cells (stL nilA zeroP).toArray 28))
  have hS : Bx (((w.alloc (.cells (stL q s).toArray 28)).alloc (.cells (suL x).toArray 30)).alloc (.cells (stL nilA zeroP).toArray 28)) w.heap.size 28 (stL q s) := ((Bx.new w _ _ _ _ rfl rfl).alloc _).alloc _
  have hX : Bx (((w.alloc (.cells (stL q s).toArray 28)).alloc (.cells (suL x).toArray 30)).alloc (.cells (stL nilA zeroP).toArray 28)) (w.heap.size + 1) 30 (suL x) := (Bx.new _ _ _ _ _ (by simp) rfl).alloc _
  have hR : Bx (((w.alloc (.cells (stL q s).toArray 28)).alloc (.cells (suL x).toArray 30)).alloc (.cells (stL nilA zeroP).toArray 28)) (w.heap.size + 2) 28 (stL nilA zeroP) := Bx.new _ _ _ _ _ (by simp) rfl
  obtain ⟨W, hW⟩ : ∃ W, (((w.alloc (.cells #[.slice q.m s.mem.length q.mc, .slice q.d s.data.length q.dc, .slice q.r s.ret.length q.rc, .slice q.c s.ctl.length q.cc, .slice q.w s.words.length q.wc, .slice q.s s.spots.length q.sc, .slice q.o s.out.length q.oc, .int .i64 s.ip, .int .i64 s.here, .int .i64 s.pos, .int .i64 s.tok, .int .i64 s.inp, .int .i64 s.err, .bool s.comp, .bool s.halt] 28)).alloc (.cells #[.string x.src, .slice x.iA x.iN x.iC, .int .i64 x.size, .int .i64 x.depth, .int .i64 x.room] 30)).alloc (.cells #[.slice none 0 0, .slice none 0 0, .slice none 0 0, .slice none 0 0, .slice none 0 0, .slice none 0 0, .slice none 0 0, .int .i64 0, .int .i64 0, .int .i64 0, .int .i64 0, .int .i64 0, .int .i64 0, .bool false, .bool false] 28)) = W := ⟨_, rfl⟩
  have HB0 : Hid (Below w.heap.size w W) := Lib.hid (by rw [← hW]; exact hB0)
  have HA0 : Hid (Bx W w.heap.size 28 (stL q s)) := Lib.hid (by rw [← hW]; exact hS)
  have HX0 : Hid (Bx W (w.heap.size + 1) 30 (suL x)) := Lib.hid (by rw [← hW]; exact hX)
  have HR0 : Hid (Bx W (w.heap.size + 2) 28 (stL nilA zeroP)) := Lib.hid (by rw [← hW]; exact hR)
  have HP : Hid (RdP w q s) := Lib.hid hp
  have HWW := Lib.hid hW
  clear hp hB0 hS hX hR hW
  rw [stV_eq q s, suV_eq x]
  go_enter Tryz.func115, Tryz.ntmps115
  go_upto_region 1 with fail
  rw [HWW.out]
  have x3 : W.cell? ⟨w.heap.size + 1, 3, none⟩ = some (.int .i64 x.depth) := HX0.out.cell 3
  have c1 : W.cell? ⟨w.heap.size, 1, none⟩ = some (.slice q.d n q.dc) := by have h := HA0.out.cell 1; rw [← HN.out]; exact h
  go_wp2_with fail
  refine (rpush_is q.d _ q.dc 1 n x.depth s.data v r1 t1 _ HN.out HR1.out HT1.out (((HP.out.below HB0.out).data).below (below_lit _ _)) (rd_one _ v) hl).mono ?_
  rintro r w1 ⟨A', c', rfl, hrd, hnew, hb⟩
  have hb1 : Below W.heap.size W w1 := below_two (below_lit _ _) hb
  have HRD := Lib.hid hrd
  have HNW : Hid (0 < r1.length → ∀ ad, A' = some ad → W.heap.size ≤ ad.block) := Lib.hid (fun h0 ad e => by have h := hnew h0 ad e; simp at h; omega)
  have HB1 := Lib.hid (below_two HB0.out hb1)
  have HA1 := Lib.hid (HA0.out.below hb1)
  have HR2 := Lib.hid (HR0.out.below hb1)
  have hWs : w.heap.size + 2 < W.heap.size := HR0.out.lt
  have HL : Hid (Lies q s (fun b => b < w.heap.size)) := Lib.hid HP.out.lies
  clear hrd hnew hb hb1 x3 c1
  by_cases hd : x.depth < n + 1
  · have ht1 := HT1.out
    unfold L04.pushE at ht1
    rw [if_pos (by omega)] at ht1
    subst ht1
    have hr := HR.out
    rw [if_pos hd] at hr
    unfold fin at hr
    rw [if_neg (show ¬ (-3 : Int) = 0 by decide)] at hr
    injection hr with ha hb
    subst ha hb
    go_wp2_with (refine wp_storeS rfl 28 _ _ rfl (w.heap.size + 2) (stL nilA zeroP) rfl rfl 28 _ HR2.out 15 infoSt rfl rfl rfl ?_)
    intro w3 hg3 hw3
    have HG := Lib.hid hg3
    have HB3 := Lib.hid (below_grown HB1.out HB1.out.size hw3 (by omega))
    clear hg3 hw3
    go_wp2
    refine bodyPost_ret (results_S Tryz.results115 _ _ (w.heap.size + 2) 28 _ _ rfl HG.out Tryz.underlying28 rfl 15 infoSt rfl _ rfl) rfl ?_
    exact ⟨nilA, rfl, Res.zero _ _ _ _, HB3.out⟩
  · have ht1 := HT1.out
    unfold L04.pushE at ht1
    rw [if_neg (by omega)] at ht1
    subst ht1
    have hr := HR.out
    rw [if_neg hd] at hr
    unfold fin at hr
    rw [if_pos rfl] at hr
    injection hr with ha hb
    subst ha hb
    have hr1 : s.data ++ [v] = r1 := by
      have h := HR1.out
      unfold L04.pushR at h
      rw [if_pos (by unfold L04.pushE; rw [if_neg (by rw [HN.out]; show ¬ x.depth < (n : Int) + 1; omega)])] at h
      exact h
    have HR1 := Lib.hid hr1
    clear hr1
    go_wp2_with (refine wp_storeF rfl 23 _ _ rfl w.heap.size 1 _ rfl rfl rfl 28 _ HA1.out 15 rfl (by decide) info1c ?_)
    intro w3 hg3 hw3
    have HA3 : Hid (Bx w3 w.heap.size 28 (stL { q with d := A', dc := c' } { s with data := s.data ++ [v] })) := Lib.hid (by rw [HR1.out]; exact hg3)
    have HR3 := Lib.hid (HR2.out.grown hw3 (by omega))
    have HW3 := Lib.hid hw3
    have HB3 := Lib.hid (below_grown HB1.out HB1.out.size hw3 (Nat.le_refl _))
    clear hg3 hw3
    go_wp2_with (first
      | (refine wp_loadS rfl 28 _ rfl w.heap.size rfl 28 _ _ HA3.out Tryz.underlying28 rfl 15 infoSt rfl ?_)
      | (refine wp_storeS rfl 28 _ _ rfl (w.heap.size + 2) (stL { q with d := A', dc := c' } { s with data := s.data ++ [v] }) rfl rfl 28 _ HR3.out 15 infoSt rfl rfl (stL_one _ _) ?_))
    intro w4 hg4 hw4
    have HOLD : ∀ S : Nat → Prop, Lies q s S → Lies { q with d := A', dc := c' } { s with data := s.data ++ [v] } (fun b => S b ∨ W.heap.size ≤ b) := fun S hS =>
      (hS.mono (fun b hb => Or.inl hb)).withData (fun h0 ad e => .inr (HNW.out (by rw [← HR1.out]; exact h0) ad e))
    have HOO := HOLD _ HL.out
    have HRD4 : Hid (RdP w4 { q with d := A', dc := c' } { s with data := s.data ++ [v] }) := Lib.hid ((((HP.out.below HB1.out).withData (by rw [HR1.out]; exact HRD.out)).grown HOO HW3.out (by omega)).grown HOO hw4 (by omega))
    have HG := Lib.hid hg4
    have HB4 := Lib.hid (below_grown HB3.out HB3.out.size hw4 (by omega))
    have HOL := Lib.hid HOLD
    clear hg4 hw4 HOLD HOO
    go_wp2
    refine bodyPost_ret (results_S Tryz.results115 _ _ (w.heap.size + 2) 28 _ _ rfl HG.out Tryz.underlying28 rfl 15 infoSt rfl _ rfl) rfl ?_
    exact ⟨_, rfl, ⟨HRD4.out, fun S hS => (HOL.out S hS).mono (fun b hb => hb.imp id (fun h => by omega))⟩, HB4.out⟩
end Go.Proofs.YtappfhjknihboaaGreatDoor


/- The reference's create and last. -/
namespace Go.Proofs.YtappfhjknihboaaGreatDoor
open Go.RowKit

theorem rg_app {P : Program} {o : Oper} {a : Act} {w : World} {K : Act → World → Prop} {Q : Exit → Act → World → Prop} {w0 : World} (hg : o.guard = none) (s x : Operand) (t e : TypeId) (z : Value) (size bytes : Nat)
    (ho : o.op = .call { callee := .builtin .append, args := #[s, x], argTypes := #[t, t] }) (ht : P.underlying t = some (.slice e))
    (hinfo : (P.info? e).map (fun i => (i.zero, i.size, i.bytes)) = some (some z, size, bytes)) (hzs : z.cells.size = size) (hsz : 0 < size) (hb0 : 0 < bytes)
    (B : Nat) (v : Value) (n : Nat) (xs : List Value) (hs : a.eval s = v) (hown : w.ownsRow B e size v n xs)
    (A : Option Addr) (m c : Nat) (news : List Value) (hx : a.eval x = .slice A m c) (hrd : Rd w A m c size news) (h1 : ∀ u ∈ news, u.oneCell' = true)
    (hbytes : (n + m) * bytes ≤ 140737488355328) (hB : B ≤ w.heap.size) (hbel : Below B w0 w)
    (h : ∀ v' w', w'.ownsRow B e size v' (n + m) (xs ++ news) → Below B w0 w' → w.grownBy w' v.ownBlock → K (a.put o.dst v') w') : o.wp P a w K Q := by
  have hw : Region.wanted o (yielded #[] a.tmps) = true := by simp [Region.wanted, hg]
  have := step_app (P := P) (Q := Q) (ops := #[]) (E := True) hg s x t e z size bytes ho ht hinfo hzs hsz hb0 B v n xs hs hown A m c news hx hrd h1 hbytes hB hbel h
  rwa [if_pos hw] at this
theorem Bx.gb {w w' : World} {g : Nat} {t : TypeId} {cs : List Value} {row : Option Nat} (h : Bx w g t cs) (hg : w.grownBy w' row) (hne : some g ≠ row) : Bx w' g t cs := (hg.block g h.lt hne).trans h
theorem own_blk {w : World} {B n size k : Nat} {e : TypeId} {v : Value} {xs : List Value} (h : w.ownsRow B e size v n xs) (hk : k < B) : some k ≠ v.ownBlock := by
  rcases h.2 with ⟨rfl, _⟩ | ⟨g, cap, cur, rfl, hb, _⟩
  · intro e; simp [Value.ownBlock] at e
  · intro e
    simp [Value.ownBlock] at e
    omega
theorem encW_one (y : Wd) : ∀ u ∈ encW y, u.oneCell' = true := by
  intro u hu
  simp only [encW, List.mem_cons, List.not_mem_nil, or_false] at hu
  rcases hu with rfl | rfl | rfl | rfl <;> rfl
theorem emit_zero : ∀ (l : List Int) (s : Ps), emitE s l ≠ 0 → emitS s l = zeroP
  | [], s, h => absurd rfl h
  | v :: r, s, h => by
    unfold emitE at h
    unfold emitS
    by_cases hc : commaE s = 0
    · rw [if_pos hc] at h ⊢
      exact emit_zero r _ h
    · rw [if_neg hc]
theorem createD_fin {x : Sx} {hid : Bool} {code : List Int} {s s1 : Ps} {m : Int} (h : nameD x (s, 0) = (s1, m)) :
    fin (createD x hid code (s, 0)) = if m = 0 then (if 256 ≤ s1.words.length then (zeroP, -8) else (emitS (newW { s1 with here := upR s1.here } (tokS x s) hid) code, emitE (newW { s1 with here := upR s1.here } (tokS x s) hid) code)) else (zeroP, m) := by
  unfold createD makeD upD
  rw [h]
  by_cases h0 : m = 0
  · subst h0
    rw [if_pos rfl]
    by_cases h1 : 256 ≤ s1.words.length
    · rw [if_pos h1]
      simp only [true_and]
      rw [if_pos h1, if_neg (by decide)]
      rfl
    · rw [if_neg h1]
      simp only [true_and]
      rw [if_neg h1, if_pos rfl]
      unfold emitD
      rw [if_pos rfl]
      obtain ⟨e, he⟩ : ∃ e, emitE (newW { s1 with here := upR s1.here } (tokS x s) hid) code = e := ⟨_, rfl⟩
      simp only
      rw [he]
      by_cases h2 : e = 0
      · subst h2
        rw [if_pos rfl]
        rfl
      · rw [if_neg h2]
        unfold fin
        rw [if_neg h2, emit_zero _ _ (by rw [he]; exact h2)]
  · rw [if_neg h0]
    simp only [h0, false_and, if_false]
    unfold fin
    rw [if_neg h0]
set_option maxRecDepth 100000 in
set_option maxHeartbeats 4000000 in
theorem RCreate_go (q : Ad) (s : Ps) (x : Sx) (hid : Bool) (A : Option Addr) (c n : Nat) (code : List Int) (s' : Ps) (e' : Int) (w : World) (hn : code.length = n) (hr : fin (createD x hid code (s, 0)) = (s', e')) (hp : RdP w q s) (hx : RdI w .i64 A c code) (hsz : x.src.size ≤ 200)
    (hm : s.mem.length ≤ 1000000) (hsp : s.spots.length ≤ 100000) (hl : s.words.length ≤ 1000000) (hn2 : n ≤ 1000) (h0 : -9223372036854775808 ≤ s.here) (h1 : s.here ≤ 9223372036854775807) :
    Calls Tryz.prog 77 #[stV q s, suV x, .bool hid, .slice A n c] w fun e w' => ∃ q', e = .returned (.tuple #[stV q' s', .int .i64 e']) ∧ Res w.heap.size q s w' q' s' ∧ Below w.heap.size w w' := by
  have HX := Lib.hid hx
  have HN := Lib.hid hn
  have HTS := Lib.hid (tok_size x s hsz)
  obtain ⟨s1, hs1⟩ : ∃ s1 : Ps, { s with pos := (tokB x.src s.pos : Int) } = s1 := ⟨_, rfl⟩
  obtain ⟨tok, htok⟩ : ∃ t, tokS x s = t := ⟨_, rfl⟩
  obtain ⟨m, hmm⟩ : ∃ m, mayN tok.size = m := ⟨_, rfl⟩
  have hnd : nameD x (s, 0) = (s1, m) := by rw [← hmm, ← htok, ← hs1]; rfl
  rw [createD_fin hnd, htok] at hr
  have hF : s1.words = s.words ∧ s1.mem = s.mem ∧ s1.spots = s.spots ∧ s1.here = s.here := by rw [← hs1]; exact ⟨rfl, rfl, rfl, rfl⟩
  have HF := Lib.hid hF
  rw [htok] at HTS
  have HTK := Lib.hid htok
  have HMM := Lib.hid hmm
  have HS1 := Lib.hid hs1
  have HR := Lib.hid hr
  have HP1 : Hid (RdP w q s1) := Lib.hid (by rw [← hs1]; exact hp.withPos _)
  have HLI : Hid (∀ S, Lies q s S → Lies q s1 S) := Lib.hid (fun S h => by rw [← hs1]; exact h.withPos _)
  clear hx hn hr hnd htok hmm hs1 hF
  have hB0 := below_two (below_two (below_lit w (.cells (stL q s).toArray 28)) (below_lit _ (.cells (suL x).toArray 30))) (below_lit _ (.cells (stL nilA zeroP).toArray 28))
  have hS : Bx (((w.alloc (.cells (stL q s).toArray 28)).alloc (.cells (suL x).toArray 30)).alloc (.cells (stL nilA zeroP).toArray 28)) w.heap.size 28 (stL q s) := ((Bx.new w _ _ _ _ rfl rfl).alloc _).alloc _
  have hX : Bx (((w.alloc (.cells (stL q s).toArray 28)).alloc (.cells (suL x).toArray 30)).alloc (.cells (stL nilA zeroP).toArray 28)) (w.heap.size + 1) 30 (suL x) := (Bx.new _ _ _ _ _ (by simp) rfl).alloc _
  have hR : Bx (((w.alloc (.cells (stL q s).toArray 28)).alloc (.cells (suL x).toArray 30)).alloc (.cells (stL nilA zeroP).toArray 28)) (w.heap.size + 2) 28 (stL nilA zeroP) := Bx.new _ _ _ _ _ (by simp) rfl
  obtain ⟨W, hW⟩ : ∃ W, (((w.alloc (.cells #[.slice q.m s.mem.length q.mc, .slice q.d s.data.length q.dc, .slice q.r s.ret.length q.rc, .slice q.c s.ctl.length q.cc, .slice q.w s.words.length q.wc, .slice q.s s.spots.length q.sc, .slice q.o s.out.length q.oc, .int .i64 s.ip, .int .i64 s.here, .int .i64 s.pos, .int .i64 s.tok, .int .i64 s.inp, .int .i64 s.err, .bool s.comp, .bool s.halt] 28)).alloc (.cells #[.string x.src, .slice x.iA x.iN x.iC, .int .i64 x.size, .int .i64 x.depth, .int .i64 x.room] 30)).alloc (.cells #[.slice none 0 0, .slice none 0 0, .slice none 0 0, .slice none 0 0, .slice none 0 0, .slice none 0 0, .slice none 0 0, .int .i64 0, .int .i64 0, .int .i64 0, .int .i64 0, .int .i64 0, .int .i64 0, .bool false, .bool false] 28)) = W := ⟨_, rfl⟩
  have HB0 : Hid (Below w.heap.size w W) := Lib.hid (by rw [← hW]; exact hB0)
  have HA0 : Hid (Bx W w.heap.size 28 (stL q s)) := Lib.hid (by rw [← hW]; exact hS)
  have HX0 : Hid (Bx W (w.heap.size + 1) 30 (suL x)) := Lib.hid (by rw [← hW]; exact hX)
  have HR0 : Hid (Bx W (w.heap.size + 2) 28 (stL nilA zeroP)) := Lib.hid (by rw [← hW]; exact hR)
  have HP : Hid (RdP w q s) := Lib.hid hp
  have HWW := Lib.hid hW
  clear hp hB0 hS hX hR hW
  rw [stV_eq q s, suV_eq x]
  go_enter Tryz.func77, Tryz.ntmps77
  go_upto_region 1 with fail
  rw [HWW.out]
  have hW2 : w.heap.size + 2 < W.heap.size := HR0.out.lt
  go_wp2_with (first
    | (refine wp_loadS rfl 28 _ rfl w.heap.size rfl 28 _ _ HA0.out Tryz.underlying28 rfl 15 infoSt rfl ?_)
    | (refine wp_loadS rfl 30 _ rfl (w.heap.size + 1) rfl 30 _ _ HX0.out Tryz.underlying30 rfl 5 infoSx rfl ?_))
  refine (RName_go q s x tok m W HTK.out HMM.out (HP.out.below HB0.out) hsz).mono ?_
  rw [HS1.out]
  rintro r w1 ⟨rfl, hb⟩
  have HB1 := Lib.hid (below_two HB0.out hb)
  have HR1 := Lib.hid (HR0.out.below hb)
  have hw1 : W.heap.size ≤ w1.heap.size := hb.size
  have HBL := Lib.hid (below_lit w1 (.cells (stL nilA zeroP).toArray 28))
  have HBX : Hid (Bx (w1.alloc (.cells (stL nilA zeroP).toArray 28)) w1.heap.size 28 (stL nilA zeroP)) := Lib.hid (Bx.new w1 _ _ _ _ rfl rfl)
  clear hb
  go_wp2_with (refine wp_storeS rfl 28 _ _ rfl w1.heap.size (stL q s1) rfl rfl 28 (stL nilA zeroP) HBX.out 15 infoSt rfl rfl (stL_one _ _) ?_)
  intro w2 hg2 hw2
  obtain ⟨g, hg⟩ : ∃ g, w1.heap.size = g := ⟨_, rfl⟩
  have HG2 : Hid (Bx w2 g 28 (stL q s1)) := Lib.hid (by rw [← hg]; exact hg2)
  have HB2 := Lib.hid (below_grown (below_two HB1.out HBL.out) (below_two HB1.out HBL.out).size hw2 (by omega))
  have HR2 := Lib.hid ((HR1.out.below HBL.out).grown hw2 (by omega))
  have hgw : w.heap.size + 2 < g := by omega
  rw [hg]
  have hg2l := HG2.out.lt
  clear hg2 hw2 hg hw1 HBX HBL HR1 HB1
  by_cases hm0 : m = 0
  · subst hm0
    have hr := HR.out
    rw [if_pos rfl] at hr
    have HR' := Lib.hid hr
    clear hr HR
    obtain ⟨up, hup⟩ : ∃ u, upR s1.here = u := ⟨_, rfl⟩
    have HUP := Lib.hid hup
    obtain ⟨L, hL⟩ : ∃ L, s1.words.length = L := ⟨_, rfl⟩
    have HL := Lib.hid hL
    have hLb : L ≤ 1000000 := by rw [← hL, HF.out.1]; exact hl
    have c8 : w2.cell? ⟨g, 8, none⟩ = some (.int .i64 s1.here) := HG2.out.cell 8
    clear hup hL
    go_wp2_with fail
    refine (RUp_any s1.here up w2 HUP.out (by rw [HF.out.2.2.2]; exact h0) (by rw [HF.out.2.2.2]; exact h1)).mono ?_
    rintro r w3 ⟨rfl, rfl⟩
    go_wp2_with (refine wp_storeF rfl 3 _ _ rfl g 8 _ rfl rfl rfl 28 _ HG2.out 15 rfl (by decide) info1i ?_)
    intro w3 hg3 hw3
    obtain ⟨s2, hs2⟩ : ∃ a : Ps, { s1 with here := up } = a := ⟨_, rfl⟩
    have HS2 : Hid (s2.words = s1.words ∧ s2.mem = s1.mem ∧ s2.spots = s1.spots ∧ s2.here = up) := Lib.hid (by rw [← hs2]; exact ⟨rfl, rfl, rfl, rfl⟩)
    have HG3 : Hid (Bx w3 g 28 (stL q s2)) := Lib.hid (by rw [← hs2]; exact hg3)
    have HB3 := Lib.hid (below_grown HB2.out HB2.out.size hw3 (by omega))
    have HR3 := Lib.hid (HR2.out.grown hw3 (by omega))
    have HP2 : Hid (RdP w q s2) := Lib.hid (by rw [← hs2]; exact HP1.out.withHere _)
    have HLI2 : Hid (∀ S, Lies q s S → Lies q s2 S) := Lib.hid (fun S h => by rw [← hs2]; exact (HLI.out S h).withHere _)
    have c4 : w3.cell? ⟨g, 4, none⟩ = some (.slice q.w L q.wc) := by
      have h := HG3.out.cell 4
      rw [← HL.out, ← HS2.out.1]
      exact h
    have hr := HR'.out
    rw [HUP.out, hs2, HL.out] at hr
    have HR2' := Lib.hid hr
    clear hg3 hw3 c8 hs2 hr HR'
    by_cases h256 : 256 ≤ L
    · have hr := HR2'.out
      rw [if_pos h256] at hr
      injection hr with ha hb
      subst ha hb
      have h256' : (256 : Int) ≤ L := by omega
      go_wp2_with (refine wp_storeS rfl 28 _ _ rfl (w.heap.size + 2) (stL nilA zeroP) rfl rfl 28 _ HR3.out 15 infoSt rfl rfl rfl ?_)
      intro w4 hg4 hw4
      have HG := Lib.hid hg4
      have HB4 := Lib.hid (below_grown HB3.out HB3.out.size hw4 (by omega))
      clear hg4 hw4
      go_wp2
      refine bodyPost_ret (results_S Tryz.results77 _ _ (w.heap.size + 2) 28 _ _ rfl HG.out Tryz.underlying28 rfl 15 infoSt rfl _ rfl) rfl ?_
      exact ⟨nilA, rfl, Res.zero _ _ _ _, HB4.out⟩
    · have hr := HR2'.out
      rw [if_neg h256] at hr
      obtain ⟨y, hy⟩ : ∃ y : Wd, (⟨foldB tok, up, false, hid⟩ : Wd) = y := ⟨_, rfl⟩
      obtain ⟨s3, hs3⟩ : ∃ a, newW s2 tok hid = a := ⟨_, rfl⟩
      rw [hs3] at hr
      injection hr with hr1 hr2
      have HE1 := Lib.hid hr1
      have HE2 := Lib.hid hr2
      have HS3 : Hid (s3 = { s2 with words := s2.words ++ [y] }) := Lib.hid (by rw [← hs3, ← hy, newW, HS2.out.2.2.2])
      have HY : Hid (encW y = [.string (foldB tok), .int .i64 up, .bool false, .bool hid]) := Lib.hid (by rw [← hy]; rfl)
      have h256' : ¬ (256 : Int) ≤ L := by omega
      have HLW : Hid (s2.words.length = L) := Lib.hid (by rw [HS2.out.1]; exact HL.out)
      clear hs3 hy hr1 hr2 HR2'
      have HRW : Hid (Rd w3 q.w L q.wc 4 (wcells s2.words)) := Lib.hid (by
        have h : Rd w3 q.w s2.words.length q.wc 4 (wcells s2.words) := (HP2.out.below HB3.out).words
        rw [HLW.out] at h
        exact h)
      have hwl : L * 32 ≤ 140737488355328 := by omega
      have HE0 : Hid ((w3.alloc (.cells #[] 47)).ownsRow w3.heap.size 47 4 (.slice (some ⟨w3.heap.size, 0, none⟩) 0 0) 0 []) := Lib.hid (own_empty (heap_alloc_new w3 _) (Nat.le_refl _))
      have HBE := Lib.hid (below_lit w3 (.cells #[] 47))
      have HRW2 := Lib.hid (HRW.out.below HBE.out)
      have HG4 := Lib.hid (HG3.out.below HBE.out)
      have c4' := HG4.out.cell 4
      have e4 : (stL q s2)[4]? = some (.slice q.w L q.wc) := by show some (Value.slice q.w s2.words.length q.wc) = _; rw [HLW.out]
      rw [e4] at c4'
      clear e4
      go_wp2_with (first
        | (at_builtin; refine wp_app (w0 := w3) rfl (.tmp 34) (.tmp 36) 25 47 _ 4 32 rfl Tryz.underlying25 infoW rfl (by decide) (by decide) w3.heap.size _ 0 [] rfl HE0.out q.w L q.wc (wcells s2.words) rfl HRW2.out (wcells_one _) (by omega) (by simp) (HBE.out) ?_))
      intro v1 w4 ho4 hb4 hgr4
      have hb4' : Below w3.heap.size w3 w4 := hb4
      have HO4 := Lib.hid ho4
      have HB4 := Lib.hid (below_two HB3.out hb4')
      have HG5 := Lib.hid (HG3.out.below hb4')
      have HR5 := Lib.hid (HR3.out.below hb4')
      obtain ⟨B, hB⟩ : ∃ B, w3.heap.size = B := ⟨_, rfl⟩
      rw [hB] at HO4
      have hgB : g < B := by rw [← hB]; exact HG3.out.lt
      have hB4 : B ≤ w4.heap.size := by rw [← hB]; exact hb4'.size
      have hwB : w.heap.size ≤ B := by omega
      have HFS : Hid ((foldB tok).size ≤ 1000) := Lib.hid (by have h := HTS.out; rw [foldB_size]; omega)
      clear ho4 hb4 hgr4 hb4' hB c4 c4' HE0 HBE HRW2 HG4
      go_upto_region 8 with fail
      obtain ⟨J, hJ⟩ : ∃ J : Bool → World → Prop, J = fun γ v => Below w.heap.size w v ∧ Bx v g 28 (stL q s2) ∧ Bx v (w.heap.size + 2) 28 (stL nilA zeroP) ∧ (γ = false → Below w4.heap.size w4 v) := ⟨_, rfl⟩
      obtain ⟨E, hE⟩ : ∃ E : Bool → World → Bool → World → Prop, E = fun γ v γ' v' => (γ = true → γ' = true) ∧ (γ' = false → γ = false ∧ Below v.heap.size v v') ∧ (γ = true → Below v.heap.size v v') ∧ J γ' v' := ⟨_, rfl⟩
      have quiet : ∀ (γ : Bool) (v : World) (i : Nat) (r : Value) (F : Bool → Value → World → Prop), J γ v → F γ r v → Did E (fun i γ => i = 8 → γ = false) γ v i r v F :=
        fun γ v i r F hj h => ⟨γ, by rw [hE]; exact ⟨id, fun h => ⟨h, Below.refl _ _⟩, fun _ => Below.refl _ _, hj⟩, fun _ _ h => h, h⟩
      have below : ∀ (γ : Bool) (v v' : World) (i : Nat) (r : Value) (F : Bool → Value → World → Prop), J γ v → Below v.heap.size v v' → F γ r v' → Did E (fun i γ => i = 8 → γ = false) γ v i r v' F := by
        intro γ v v' i r F hj hb h
        refine ⟨γ, ?_, fun _ _ h => h, h⟩
        rw [hE]
        refine ⟨id, fun h => ⟨h, hb⟩, fun _ => hb, ?_⟩
        rw [hJ] at hj ⊢
        exact ⟨below_two hj.1 hb, hj.2.1.below hb, hj.2.2.1.below hb, fun h => below_two (hj.2.2.2 h) hb⟩
      have hf8 : ∀ v : World, (Instr.fieldAt 28 (.pointer (some ⟨g, 0, none⟩)) 8).run Tryz.prog v = .ok (.pointer (some ⟨g, 8, none⟩)) v := fun v => by kernel_rfl
      refine wp_region_list2 (Γ := Bool) (J := J) (E := E) (U := fun i γ => i = 8 → γ = false)
        [fun _ v _ => v = v1, fun _ v _ => v = .string tok, fun _ v _ => v = .string (foldB tok), fun _ v _ => v = .pointer (some ⟨g, 8, none⟩), fun _ v _ => v = .int .i64 up, fun _ v _ => v = .bool hid,
         fun _ v _ => v = .agg #[.string (foldB tok), .int .i64 up, .bool false, .bool hid],
         fun γ v u => ∃ m, v = .slice (some ⟨m, 0, none⟩) 1 1 ∧ (γ = false → Rd u (some ⟨m, 0, none⟩) 1 1 4 (encW y)),
         fun γ v u => γ = true ∧ u.ownsRow B 47 4 v (L + 1) (wcells s2.words ++ encW y),
         fun γ v u => γ = true ∧ u.ownsRow B 47 4 v (L + 1) (wcells s2.words ++ encW y)]
        (fun | 2 => [1] | 4 => [3] | 6 => [2, 4, 5] | 7 => [6] | 8 => [0, 7] | 9 => [8] | _ => [])
        _ rfl rfl (by kernel_rfl) (by kernel_rfl) false (fun _ _ => rfl)
        (by rw [hJ]; exact ⟨HB4.out.drew, HG5.out, HR5.out, fun _ => (Below.refl _ _).drew⟩) ?_ ?_ ?_ ?_
      · intro γ v γ' v' hj he
        rw [hE] at he
        exact he.2.2.2
      · intro i hi γ v u γ' u' hj h he
        rw [hE] at he
        obtain ⟨e1, e2, e3, e4⟩ := he
        match i, hi, h with
        | 0, _, h => exact h
        | 1, _, h => exact h
        | 2, _, h => exact h
        | 3, _, h => exact h
        | 4, _, h => exact h
        | 5, _, h => exact h
        | 6, _, h => exact h
        | 7, _, h =>
          obtain ⟨m, h1, h2⟩ := h
          exact ⟨m, h1, fun h => by obtain ⟨ha, hb⟩ := e2 h; exact (h2 ha).below hb⟩
        | 8, _, h => exact ⟨e1 h.1, own_below h.2 (e3 h.1)⟩
        | 9, _, h => exact ⟨e1 h.1, own_below h.2 (e3 h.1)⟩
        | n + 10, hi, _ => exact absurd hi (by simp)
      · refine ⟨?_, ?_, ?_, ?_, ?_, ?_, ?_, ?_, ?_, ?_, trivial⟩
        · intro a γ v hj hu hd hf
          exact rg_move _ rfl _ (hf 13 (by decide +kernel)) ⟨_, rfl, quiet _ _ _ _ _ hj rfl⟩
        · intro a γ v hj hu hd hf
          exact rg_move _ rfl _ (hf 11 (by decide)) ⟨_, rfl, quiet _ _ _ _ _ hj rfl⟩
        · intro a γ v hj hu hd hf
          obtain ⟨y, e, rfl⟩ := hd 1 (by simp)
          refine rg_call 94 _ _ rfl #[.string tok] (by simp [e 39 rfl]) (by go_simp) _ (RFold_any tok v (by have := HTS.out; omega)) ?_
          rintro r u ⟨rfl, hb⟩
          exact ⟨_, rfl, _, rfl, below _ _ _ _ _ _ hj hb rfl⟩
        · intro a γ v hj hu hd hf
          exact rg_field _ _ _ rfl _ _ (hf 10 (by decide)) (hf8 v) ⟨_, rfl, quiet _ _ _ _ _ hj rfl⟩
        · intro a γ v hj hu hd hf
          obtain ⟨_, e, rfl⟩ := hd 3 (by simp)
          have hj' := hj
          rw [hJ] at hj'
          have hk : v.cell? ⟨g, 8, none⟩ = some (.int .i64 up) := by
            have h := hj'.2.1.cell 8
            rw [← HS2.out.2.2.2]
            exact h
          exact rg_loadv _ _ rfl _ _ (e 41 rfl) (ld_int _ _ _ hk) ⟨_, rfl, quiet _ _ _ _ _ hj rfl⟩
        · intro a γ v hj hu hd hf
          exact rg_move _ rfl _ (hf 2 (by decide)) ⟨_, rfl, quiet _ _ _ _ _ hj rfl⟩
        · intro a γ v hj hu hd hf
          obtain ⟨_, e2, rfl⟩ := hd 2 (by simp)
          obtain ⟨_, e4, rfl⟩ := hd 4 (by simp)
          obtain ⟨_, e5, rfl⟩ := hd 5 (by simp)
          refine rg_run _ ?_ ⟨_, rfl, quiet _ _ _ _ _ hj rfl⟩
          unfold execOp
          simp only [List.map_toArray, List.map_cons, List.map_nil, e2 40 rfl, e4 42 rfl, e5 43 rfl, Sem.run_bind, bw_run, Sem.run_pure, Result.andThen_ok]
        · intro a γ v hj hu hd hf
          obtain ⟨_, e, rfl⟩ := hd 6 (by simp)
          refine rg_runw (.slice (some ⟨v.heap.size, 0, none⟩) 1 1) (v.alloc (.cells #[.string (foldB tok), .int .i64 up, .bool false, .bool hid] 47 (0, 0))) ?_ ⟨_, rfl, below _ _ _ _ _ _ hj (below_lit _ _) ⟨v.heap.size, rfl, fun _ => ?_⟩⟩
          · unfold execOp
            simp only [List.map_toArray, List.map_cons, List.map_nil, e 44 rfl, Sem.run_bind, bs_run, Sem.run_pure, Result.andThen_ok]
          · rw [HY.out]
            exact rd_alloc v _ _ _ _ 1 1 4 rfl rfl (by decide) (by decide)
        · intro a γ v hj hu hd hf
          obtain ⟨_, e0, rfl⟩ := hd 0 (by simp)
          obtain ⟨_, e7, m, rfl, hr⟩ := hd 7 (by simp)
          obtain rfl := hu rfl
          have hj' := hj
          rw [hJ] at hj'
          have hb := hj'.2.2.2 rfl
          refine rg_app (w0 := w4) rfl (.tmp 38) (.tmp 45) 25 47 _ 4 32 rfl Tryz.underlying25 infoW rfl (by decide) (by decide) B _ L (wcells s2.words) (e0 38 rfl) (own_below HO4.out hb) (some ⟨m, 0, none⟩) 1 1 (encW y) (e7 45 rfl) (hr rfl) (encW_one y) (by omega) (Nat.le_trans hB4 hb.size) (hb.mono hB4) ?_
          intro v' w' ho hbw hgr
          refine ⟨_, rfl, true, ?_, fun j hj2 h e => absurd e hj2, rfl, ho⟩
          rw [hE]
          refine ⟨fun h => (by cases h), fun h => (by cases h), fun h => (by cases h), ?_⟩
          rw [hJ]
          exact ⟨HB4.out.trans (hbw.mono hwB), hj'.2.1.gb hgr (own_blk HO4.out hgB), hj'.2.2.1.gb hgr (own_blk HO4.out (by omega)), fun h => (by cases h)⟩
        · intro a γ v hj hu hd hf
          obtain ⟨_, e, h1, h2⟩ := hd 8 (by simp)
          exact rg_assign _ rfl _ (e 46 rfl) ⟨_, rfl, quiet _ _ _ _ _ hj ⟨h1, h2⟩⟩
      · intro V γ v hj h
        obtain ⟨rfl, hown⟩ := h 9 (by decide)
        obtain ⟨gb, cap, h9, hgb, _, _, _⟩ := own_form hown (by omega)
        obtain ⟨A9, c9, h9', hrd9⟩ := Rd.own hown
        rw [h9] at h9'
        injection h9' with hA9 _ hc9
        subst hA9 hc9
        rw [hJ] at hj
        have HB9 := Lib.hid hj.1
        have HG9 := Lib.hid hj.2.1
        have HR9 := Lib.hid hj.2.2.1
        have HD9 : Hid (RdE v encW 4 (some ⟨gb, 0, none⟩) cap (s2.words ++ [y])) := Lib.hid (by
          show Rd v _ (s2.words ++ [y]).length cap 4 (wcells (s2.words ++ [y]))
          rw [List.length_append, HLW.out, show wcells (s2.words ++ [y]) = wcells s2.words ++ encW y by simp [wcells]]
          exact hrd9)
        have HGB := Lib.hid hgb
        clear hj h hown hrd9 quiet below hJ hE
        simp only [List.map_cons, List.map_nil, putD, Act.put, List.setIfInBounds_toArray, List.set_cons_succ, List.set_cons_zero, Nat.reduceAdd, Nat.zero_add, h9]
        clear h9
        go_wp2_with (refine wp_storeF rfl 25 _ _ rfl g 4 _ rfl rfl rfl 28 _ HG9.out 15 rfl (by decide) info1w ?_)
        intro w5 hg5 hw5
        have HG5 : Hid (Bx w5 g 28 (stL { q with w := some ⟨gb, 0, none⟩, wc := cap } s3)) := Lib.hid (by
          have e : (stL q s2).set 4 (.slice (some ⟨gb, 0, none⟩) (L + 1) cap) = stL { q with w := some ⟨gb, 0, none⟩, wc := cap } s3 := by
            rw [HS3.out]
            unfold stL
            rw [show ({ s2 with words := s2.words ++ [y] } : Ps).words.length = L + 1 by show (s2.words ++ [y]).length = L + 1; rw [List.length_append, HLW.out]; rfl]
            rfl
          rw [← e]
          exact hg5)
        have HRB := Lib.hid (HR9.out.grown hw5 (by omega))
        have HB5 := Lib.hid (below_grown HB9.out HB9.out.size hw5 (by omega))
        have hLW : ∀ S : Nat → Prop, Lies q s S → Lies { q with w := some ⟨gb, 0, none⟩, wc := cap } s3 (fun b => S b ∨ B ≤ b) := fun S hS => by
          rw [HS3.out]
          exact ((HLI2.out S hS).mono (fun b hb => Or.inl hb)).withWords (fun _ ad e => .inr (by cases e; exact HGB.out))
        have HLW3 := Lib.hid hLW
        have HP3 : Hid (RdP w5 { q with w := some ⟨gb, 0, none⟩, wc := cap } s3) := Lib.hid (by
          have hl := hLW _ HP.out.lies
          have h : RdP v { q with w := some ⟨gb, 0, none⟩, wc := cap } s3 := by
            rw [HS3.out]
            exact (HP2.out.below HB9.out).withWords HD9.out
          exact h.grown hl hw5 (by omega))
        have HM3 : Hid (s3.mem.length ≤ 1000000 ∧ s3.spots.length ≤ 100000) := Lib.hid (by
          rw [HS3.out]
          show s2.mem.length ≤ _ ∧ s2.spots.length ≤ _
          rw [HS2.out.2.1, HS2.out.2.2.1, HF.out.2.1, HF.out.2.2.1]
          exact ⟨hm, hsp⟩)
        clear hg5 hw5 hLW
        go_wp2_with (refine wp_loadS rfl 28 _ rfl g rfl 28 _ _ HG5.out Tryz.underlying28 rfl 15 infoSt rfl ?_)
        refine (REmit_any _ s3 A c n code _ _ w5 HN.out HE1.out HE2.out HP3.out (HX.out.below HB5.out) (by have := HM3.out.1; omega) (by have := HM3.out.2; omega)).mono ?_
        rintro r w6 ⟨q6, rfl, hres, hb6⟩
        have HRES := Lib.hid hres
        have HB6 := Lib.hid hb6
        have HRB6 := Lib.hid (HRB.out.below hb6)
        clear hres hb6
        go_wp2_with (refine wp_storeS rfl 28 _ _ rfl (w.heap.size + 2) (stL q6 _) rfl rfl 28 _ HRB6.out 15 infoSt rfl rfl (stL_one _ _) ?_)
        intro w7 hg7 hw7
        have HG := Lib.hid hg7
        have HB7 := Lib.hid (below_grown (below_two HB5.out HB6.out) (below_two HB5.out HB6.out).size hw7 (by omega))
        have hw56 : w.heap.size ≤ w5.heap.size := HB5.out.size
        have hl6 : Lies q6 s' (fun b => (b < w.heap.size ∨ B ≤ b) ∨ w5.heap.size ≤ b) := HRES.out.lies _ (HLW3.out _ HP.out.lies)
        have HP7 := Lib.hid (HRES.out.rd.grown hl6 hw7 (by have := HR9.out.lt; have := HRB.out.lt; omega))
        have HLZ := Lib.hid (fun (S : Nat → Prop) (hS : Lies q s S) => (HRES.out.lies _ (HLW3.out S hS)).mono (fun b hb => (hb.elim (fun h => h.imp id (fun h => by omega)) (fun h => .inr (by omega)) : S b ∨ w.heap.size ≤ b)))
        clear hg7 hw7 hl6
        go_wp2
        refine bodyPost_ret (results_S Tryz.results77 _ _ (w.heap.size + 2) 28 _ _ rfl HG.out Tryz.underlying28 rfl 15 infoSt rfl _ rfl) rfl ?_
        exact ⟨q6, rfl, ⟨HP7.out, HLZ.out⟩, HB7.out⟩
  · have hr := HR.out
    rw [if_neg hm0] at hr
    injection hr with ha hb
    subst ha hb
    go_wp2_with (refine wp_storeS rfl 28 _ _ rfl (w.heap.size + 2) (stL nilA zeroP) rfl rfl 28 _ HR2.out 15 infoSt rfl rfl rfl ?_)
    intro w4 hg4 hw4
    have HG := Lib.hid hg4
    have HB4 := Lib.hid (below_grown HB2.out HB2.out.size hw4 (by omega))
    clear hg4 hw4
    go_wp2
    refine bodyPost_ret (results_S Tryz.results77 _ _ (w.heap.size + 2) 28 _ _ rfl HG.out Tryz.underlying28 rfl 15 infoSt rfl _ rfl) rfl ?_
    exact ⟨nilA, rfl, Res.zero _ _ _ _, HB4.out⟩
end Go.Proofs.YtappfhjknihboaaGreatDoor


/- The reference's last. -/
namespace Go.Proofs.YtappfhjknihboaaGreatDoor
open Go.RowKit

/-- One struct among others, in a region. -/
theorem rg_storeM {P : Program} {o : Oper} {a : Act} {w : World} {K : Act → World → Prop} {Q : Exit → Act → World → Prop} (ty : TypeId) (x y : Operand) (ho : o.op = .store ty x y)
    (g k : Nat) (cells : List Value) (hx : a.eval x = .pointer (some ⟨g, k, none⟩)) (hy : a.eval y = .agg cells.toArray) (h1 : cells.all (·.oneCell') = true)
    (t : TypeId) (cs : List Value) (hg : Bx w g t cs) (m : Nat) (hm : cells.length = m) (hk : k + m ≤ cs.length) (hi : (P.info? ty).map (·.size) = some m)
    (h : ∀ w', Bx w' g t (splice cs k cells) → w.grownBy w' (some g) → K (a.put o.dst undef) w') : o.wp P a w K Q := by
  have hst := run_storeCells_at (P := P) g k t cells 0 cs.toArray w hg (by simp; omega) (fun v hv => by simpa using List.all_eq_true.1 h1 v hv)
  simp only [Nat.add_zero] at hst
  have hrun : (Instr.storeAt ty (.pointer (some ⟨g, k, none⟩)) (.agg cells.toArray)).run P w = .ok () (w.setRow g (splice cs k cells).toArray) := by
    cases hq : P.info? ty with
    | none => rw [hq] at hi; cases hi
    | some i =>
      have hs : cells.length = i.size := by rw [hq] at hi; rw [hm]; simpa using hi.symm
      simp only [Instr.storeAt, Instr.sureAddr, Sem.run_bind, Sem.run_pure, Result.andThen_ok, storeVar, sizeOf, typeInfo]
      simp [hq, hs, Value.cells, hst, splice]
  unfold Oper.wp execOp
  simp only [ho, hx, hy, Sem.run_bind, hrun, Sem.run_pure, Result.andThen_ok]
  exact h _ (setRow_heap w g _ _ t _ hg) (grown_setRow w g _)
theorem infoWs : (Tryz.prog.info? 47).map (·.size) = some 4 := by kernel_rfl
theorem ixW_run (gb n c m : Nat) (w : World) (h : m < n) : (Instr.indexAt 25 (.slice (some ⟨gb, 0, none⟩) n c) (.int .i64 m)).run Tryz.prog w = .ok (.pointer (some ⟨gb, m * 4, none⟩)) w := by
  have h0 : (0 : Int) ≤ m := by omega
  have h1 : (m : Int) < n := by omega
  go_simp
theorem fdW_run (gb k j : Nat) (hj : j < 4) (w : World) : (Instr.fieldAt 47 (.pointer (some ⟨gb, k, none⟩)) j).run Tryz.prog w = .ok (.pointer (some ⟨gb, k + j, none⟩)) w := by
  rcases j with _ | _ | _ | _ | j
  · kernel_rfl
  · kernel_rfl
  · kernel_rfl
  · kernel_rfl
  · omega
theorem ld_str (p : Addr) (n : ByteArray) (w : World) (h : w.cell? p = some (.string n)) : (Instr.loadAt 9 (.pointer (some p))).run Tryz.prog w = .ok (.string n) w := by
  go_simp
theorem ld_bool (p : Addr) (n : Bool) (w : World) (h : w.cell? p = some (.bool n)) : (Instr.loadAt 4 (.pointer (some p))).run Tryz.prog w = .ok (.bool n) w := by
  go_simp
theorem bw4_run (f : ByteArray) (u : Int) (a b : Bool) (w : World) : (Instr.build 47 #[(0, .string f), (1, .int .i64 u), (2, .bool a), (3, .bool b)]).run Tryz.prog w = .ok (.agg #[.string f, .int .i64 u, .bool a, .bool b]) w := by kernel_rfl
def setF (now hid : Bool) (y : Wd) : Wd := { y with now := now, hid := hid }
theorem encW_eq (y : Wd) : encW y = [.string y.nm, .int .i64 y.code, .bool y.now, .bool y.hid] := rfl
set_option maxRecDepth 100000 in
set_option maxHeartbeats 4000000 in
theorem RLast_go (q : Ad) (s : Ps) (now hid : Bool) (s' : Ps) (w : World) (hr : { s with words := turnL (setF now hid) s.words } = s') (hp : RdP w q s) (hn : 0 < s.words.length) (hl : s.words.length ≤ 1000000) :
    Calls Tryz.prog 79 #[stV q s, .bool now, .bool hid] w fun e w' => ∃ q', e = .returned (stV q' s') ∧ Res w.heap.size q s w' q' s' ∧ Below w.heap.size w w' := by
  obtain ⟨l0, y, hsw⟩ := snoc_of hn
  obtain ⟨m, hm⟩ : ∃ m, l0.length = m := ⟨_, rfl⟩
  have hL : s.words.length = m + 1 := by rw [hsw, List.length_append, hm]; rfl
  have HL := Lib.hid hL
  have HSW := Lib.hid hsw
  have HM := Lib.hid hm
  have HR := Lib.hid hr
  have hml : m < 1000000 := by omega
  have hrw : Rd w q.w (m + 1) q.wc 4 (wcells s.words) := by rw [← hL]; exact hp.words
  have HRW := Lib.hid hrw
  clear hr hn hl hsw hm hL hrw
  have hB0 := below_two (below_lit w (.cells (stL q s).toArray 28)) (below_lit _ (.cells (stL nilA zeroP).toArray 28))
  have hS : Bx ((w.alloc (.cells (stL q s).toArray 28)).alloc (.cells (stL nilA zeroP).toArray 28)) w.heap.size 28 (stL q s) := (Bx.new w _ _ _ _ rfl rfl).alloc _
  have hR : Bx ((w.alloc (.cells (stL q s).toArray 28)).alloc (.cells (stL nilA zeroP).toArray 28)) (w.heap.size + 1) 28 (stL nilA zeroP) := Bx.new _ _ _ _ _ (by simp) rfl
  obtain ⟨W, hW⟩ : ∃ W, ((w.alloc (.cells #[.slice q.m s.mem.length q.mc, .slice q.d s.data.length q.dc, .slice q.r s.ret.length q.rc, .slice q.c s.ctl.length q.cc, .slice q.w s.words.length q.wc, .slice q.s s.spots.length q.sc, .slice q.o s.out.length q.oc, .int .i64 s.ip, .int .i64 s.here, .int .i64 s.pos, .int .i64 s.tok, .int .i64 s.inp, .int .i64 s.err, .bool s.comp, .bool s.halt] 28)).alloc (.cells #[.slice none 0 0, .slice none 0 0, .slice none 0 0, .slice none 0 0, .slice none 0 0, .slice none 0 0, .slice none 0 0, .int .i64 0, .int .i64 0, .int .i64 0, .int .i64 0, .int .i64 0, .int .i64 0, .bool false, .bool false] 28)) = W := ⟨_, rfl⟩
  have HB0 : Hid (Below w.heap.size w W) := Lib.hid (by rw [← hW]; exact hB0)
  have HA0 : Hid (Bx W w.heap.size 28 (stL q s)) := Lib.hid (by rw [← hW]; exact hS)
  have HR0 : Hid (Bx W (w.heap.size + 1) 28 (stL nilA zeroP)) := Lib.hid (by rw [← hW]; exact hR)
  have HP : Hid (RdP w q s) := Lib.hid hp
  have HWW := Lib.hid hW
  clear hp hB0 hS hR hW
  rw [stV_eq q s]
  go_enter Tryz.func79, Tryz.ntmps79
  go_upto_region 1 with fail
  rw [HWW.out]
  have hW2 : w.heap.size + 1 < W.heap.size := HR0.out.lt
  have HE0 : Hid ((W.alloc (.cells #[] 47)).ownsRow W.heap.size 47 4 (.slice (some ⟨W.heap.size, 0, none⟩) 0 0) 0 []) := Lib.hid (own_empty (heap_alloc_new W _) (Nat.le_refl _))
  have HBE := Lib.hid (below_lit W (.cells #[] 47))
  have HRW2 := Lib.hid ((HRW.out.below HB0.out).below HBE.out)
  have c4 : W.cell? ⟨w.heap.size, 4, none⟩ = some (.slice q.w (m + 1) q.wc) := by have h := HA0.out.cell 4; rw [← HL.out]; exact h
  have c4' : (W.alloc (.cells #[] 47)).cell? ⟨w.heap.size, 4, none⟩ = some (.slice q.w (m + 1) q.wc) := by have h := (HA0.out.below HBE.out).cell 4; rw [← HL.out]; exact h
  go_wp2_with (first
    | (at_builtin; refine wp_app (w0 := W) rfl (.tmp 9) (.tmp 11) 25 47 _ 4 32 rfl Tryz.underlying25 infoW rfl (by decide) (by decide) W.heap.size _ 0 [] rfl HE0.out q.w (m + 1) q.wc (wcells s.words) rfl HRW2.out (wcells_one _) (by omega) (by simp) (HBE.out) ?_))
  intro v1 w1 ho1 hb1 _
  have ho1 : w1.ownsRow W.heap.size 47 4 v1 (m + 1) (wcells s.words) := by simpa using ho1
  have HB1 := Lib.hid (below_two HB0.out hb1)
  have HA1 := Lib.hid (HA0.out.below hb1)
  have HR1 := Lib.hid (HR0.out.below hb1)
  obtain ⟨gb, cap, cur, rfl, hgb, hbk, hnc, hcm, hcs, htk⟩ : ∃ g cap cur, v1 = .slice (some ⟨g, 0, none⟩) (m + 1) cap ∧ W.heap.size ≤ g ∧ w1.heap[g]? = some (.cells cur 47 (0, 0)) ∧ m + 1 ≤ cap ∧ cap ≤ maxLen ∧ cur.size = cap * 4 ∧ cur.toList.take ((m + 1) * 4) = wcells s.words := by
    rcases ho1.2 with ⟨_, h⟩ | h
    · omega
    · exact h
  obtain ⟨cl, hcl⟩ : ∃ l, cur.toList = l := ⟨_, rfl⟩
  have HBC : Hid (Bx w1 gb 47 cl) := Lib.hid (by unfold Bx; rw [hbk, ← hcl])
  have hcll : cl.length = cap * 4 := by rw [← hcl]; simpa using hcs
  rw [hcl] at htk
  have HTK := Lib.hid htk
  have hlc : (m + 1) * 4 ≤ cl.length := by omega
  have HCL := Lib.hid hlc
  have HCN := Lib.hid (And.intro hnc hcm)
  have HCC := Lib.hid hcll
  have hgbl := HBC.out.lt
  clear ho1 hb1 hbk hcs htk hcl hcll c4 c4' hnc hcm hlc HE0 HBE HRW2
  have hwm : IntKind.i64.wrap ((m : Int) + 1 - 1) = m := by rw [show ((m : Int) + 1 - 1) = m by omega]; exact IntWalk.i64_in _ (by omega)
  go_upto_region 3 with fail
  obtain ⟨y2, hy2⟩ : ∃ y2 : Wd, setF now hid y = y2 := ⟨_, rfl⟩
  have HY2 : Hid (y2.nm = y.nm ∧ y2.code = y.code ∧ encW y2 = [.string y.nm, .int .i64 y.code, .bool now, .bool hid]) := Lib.hid (by rw [← hy2]; exact ⟨rfl, rfl, rfl⟩)
  have HYY := Lib.hid hy2
  have HLE : Hid ((wcells l0).length = m * 4) := Lib.hid (by rw [wcells_len, HM.out])
  have HOLD : Hid (∀ j u, (encW y)[j]? = some u → cl[m * 4 + j]? = some u) := Lib.hid (fun j u h => by
    have hj : j < 4 := (List.getElem?_eq_some_iff.1 h).1
    have h2 : (wcells s.words)[m * 4 + j]? = some u := by
      rw [HSW.out, show wcells (l0 ++ [y]) = wcells l0 ++ encW y by simp [wcells], List.getElem?_append_right (by rw [HLE.out]; omega), HLE.out, show m * 4 + j - m * 4 = j by omega]
      exact h
    rw [← HTK.out, List.getElem?_take_of_lt (by omega)] at h2
    exact h2)
  have HNEW : Hid (∀ j u, (encW y2)[j]? = some u → (splice cl (m * 4) (encW y2))[m * 4 + j]? = some u) := Lib.hid (fun j u h => by
    have hj : j < 4 := (List.getElem?_eq_some_iff.1 h).1
    have hlc := HCL.out
    unfold splice
    rw [List.getElem?_append_right (by rw [List.length_take]; omega), List.length_take, show m * 4 + j - min (m * 4) cl.length = j by omega, List.getElem?_append_left (by rw [encW_len]; omega)]
    exact h)
  have HC : Hid (∀ (v : World) (j : Nat) (u : Value), (Below w1.heap.size w1 v ∨ True ∧ Bx v gb 47 (splice cl (m * 4) (encW y2))) → j < 2 → (encW y)[j]? = some u → v.cell? ⟨gb, m * 4 + j, none⟩ = some u) := Lib.hid (fun v j u h hj hu => by
    rcases h with h | ⟨_, h⟩
    · rw [(HBC.out.below h).cell]
      exact HOLD.out j u hu
    · rw [h.cell]
      refine HNEW.out j u ?_
      rw [HY2.out.2.2]
      rw [encW_eq] at hu
      rcases j with _ | _ | j
      · exact hu
      · exact hu
      · omega)
  clear hy2
  refine wp_region_one (gb) 47 (splice cl (m * 4) (encW y2)) 16 [fun v _ => v = .slice (some ⟨gb, 0, none⟩) (m + 1) cap, fun v _ => v = .int .i64 m, fun v _ => v = .slice (some ⟨gb, 0, none⟩) (m + 1) cap, fun v _ => v = .int .i64 m, fun v _ => v = .pointer (some ⟨gb, m * 4, none⟩), fun v _ => v = .pointer (some ⟨gb, m * 4 + 0, none⟩), fun v _ => v = .string y.nm, fun v _ => v = .slice (some ⟨gb, 0, none⟩) (m + 1) cap, fun v _ => v = .int .i64 m, fun v _ => v = .pointer (some ⟨gb, m * 4, none⟩), fun v _ => v = .pointer (some ⟨gb, m * 4 + 1, none⟩), fun v _ => v = .int .i64 y.code, fun v _ => v = .bool now, fun v _ => v = .bool hid, fun v _ => v = .agg (encW y2).toArray, fun v _ => v = .pointer (some ⟨gb, m * 4, none⟩), fun _ _ => True] (fun | 4 => [2, 3] | 5 => [4] | 6 => [5] | 9 => [7, 8] | 10 => [9] | 11 => [10] | 14 => [6, 11, 12, 13] | 15 => [0, 1] | 16 => [14, 15] | _ => []) _ rfl rfl (by kernel_rfl) (by kernel_rfl) (by decide) rfl ?_ ?_ ?_
  · intro i hi v u u' h hg
    match i, hi, h with
    | 0, _, h => exact h
    | 1, _, h => exact h
    | 2, _, h => exact h
    | 3, _, h => exact h
    | 4, _, h => exact h
    | 5, _, h => exact h
    | 6, _, h => exact h
    | 7, _, h => exact h
    | 8, _, h => exact h
    | 9, _, h => exact h
    | 10, _, h => exact h
    | 11, _, h => exact h
    | 12, _, h => exact h
    | 13, _, h => exact h
    | 14, _, h => exact h
    | 15, _, h => exact h
    | 16, _, h => exact h
    | n + 17, hi, _ => exact absurd hi (by simp)
  · refine ⟨?_, ?_, ?_, ?_, ?_, ?_, ?_, ?_, ?_, ?_, ?_, ?_, ?_, ?_, ?_, ?_, ?_, trivial⟩
    · intro a v hg hj hd hf
      exact rg_move _ rfl _ (hf 7 (by decide)) ⟨_, rfl, .inl ⟨Below.refl _ _, by decide⟩, rfl⟩
    · intro a v hg hj hd hf
      exact rg_move _ rfl _ (hf 8 (by decide)) ⟨_, rfl, .inl ⟨Below.refl _ _, by decide⟩, rfl⟩
    · intro a v hg hj hd hf
      exact rg_move _ rfl _ (hf 7 (by decide)) ⟨_, rfl, .inl ⟨Below.refl _ _, by decide⟩, rfl⟩
    · intro a v hg hj hd hf
      exact rg_move _ rfl _ (hf 8 (by decide)) ⟨_, rfl, .inl ⟨Below.refl _ _, by decide⟩, rfl⟩
    · intro a v hg hj hd hf
      obtain ⟨_, e1, rfl⟩ := hd 2 (by simp)
      obtain ⟨_, e2, rfl⟩ := hd 3 (by simp)
      refine rg_run (.pointer (some ⟨gb, m * 4, none⟩)) ?_ ⟨_, rfl, .inl ⟨Below.refl _ _, by decide⟩, rfl⟩
      unfold execOp
      simp only [e1 18 rfl, e2 19 rfl, Sem.run_bind, ixW_run gb (m + 1) cap m v (by omega), Sem.run_pure, Result.andThen_ok]
    · intro a v hg hj hd hf
      obtain ⟨_, e, rfl⟩ := hd 4 (by simp)
      exact rg_field _ _ _ rfl _ _ (e 20 rfl) (fdW_run gb (m * 4) 0 (by decide) v) ⟨_, rfl, .inl ⟨Below.refl _ _, by decide⟩, rfl⟩
    · intro a v hg hj hd hf
      obtain ⟨_, e, rfl⟩ := hd 5 (by simp)
      exact rg_loadv _ _ rfl _ _ (e 21 rfl) (ld_str _ _ _ (HC.out v 0 _ (hj.imp id (fun h => ⟨trivial, h.2⟩)) (by decide) rfl)) ⟨_, rfl, .inl ⟨Below.refl _ _, by decide⟩, rfl⟩
    · intro a v hg hj hd hf
      exact rg_move _ rfl _ (hf 7 (by decide)) ⟨_, rfl, .inl ⟨Below.refl _ _, by decide⟩, rfl⟩
    · intro a v hg hj hd hf
      exact rg_move _ rfl _ (hf 8 (by decide)) ⟨_, rfl, .inl ⟨Below.refl _ _, by decide⟩, rfl⟩
    · intro a v hg hj hd hf
      obtain ⟨_, e1, rfl⟩ := hd 7 (by simp)
      obtain ⟨_, e2, rfl⟩ := hd 8 (by simp)
      refine rg_run (.pointer (some ⟨gb, m * 4, none⟩)) ?_ ⟨_, rfl, .inl ⟨Below.refl _ _, by decide⟩, rfl⟩
      unfold execOp
      simp only [e1 23 rfl, e2 24 rfl, Sem.run_bind, ixW_run gb (m + 1) cap m v (by omega), Sem.run_pure, Result.andThen_ok]
    · intro a v hg hj hd hf
      obtain ⟨_, e, rfl⟩ := hd 9 (by simp)
      exact rg_field _ _ _ rfl _ _ (e 25 rfl) (fdW_run gb (m * 4) 1 (by decide) v) ⟨_, rfl, .inl ⟨Below.refl _ _, by decide⟩, rfl⟩
    · intro a v hg hj hd hf
      obtain ⟨_, e, rfl⟩ := hd 10 (by simp)
      exact rg_loadv _ _ rfl _ _ (e 26 rfl) (ld_int _ _ _ (HC.out v 1 _ (hj.imp id (fun h => ⟨trivial, h.2⟩)) (by decide) rfl)) ⟨_, rfl, .inl ⟨Below.refl _ _, by decide⟩, rfl⟩
    · intro a v hg hj hd hf
      exact rg_move _ rfl _ (hf 1 (by decide)) ⟨_, rfl, .inl ⟨Below.refl _ _, by decide⟩, rfl⟩
    · intro a v hg hj hd hf
      exact rg_move _ rfl _ (hf 2 (by decide)) ⟨_, rfl, .inl ⟨Below.refl _ _, by decide⟩, rfl⟩
    · intro a v hg hj hd hf
      obtain ⟨_, e6, rfl⟩ := hd 6 (by simp)
      obtain ⟨_, e11, rfl⟩ := hd 11 (by simp)
      obtain ⟨_, e12, rfl⟩ := hd 12 (by simp)
      obtain ⟨_, e13, rfl⟩ := hd 13 (by simp)
      refine rg_run (.agg (encW y2).toArray) ?_ ⟨_, rfl, .inl ⟨Below.refl _ _, by decide⟩, rfl⟩
      unfold execOp
      rw [HY2.out.2.2]
      simp only [List.map_toArray, List.map_cons, List.map_nil, e6 22 rfl, e11 27 rfl, e12 28 rfl, e13 29 rfl, Sem.run_bind, bw4_run, Sem.run_pure, Result.andThen_ok]
    · intro a v hg hj hd hf
      obtain ⟨_, e1, rfl⟩ := hd 0 (by simp)
      obtain ⟨_, e2, rfl⟩ := hd 1 (by simp)
      refine rg_run (.pointer (some ⟨gb, m * 4, none⟩)) ?_ ⟨_, rfl, .inl ⟨Below.refl _ _, by decide⟩, rfl⟩
      unfold execOp
      simp only [e1 16 rfl, e2 17 rfl, Sem.run_bind, ixW_run gb (m + 1) cap m v (by omega), Sem.run_pure, Result.andThen_ok]
    · intro a v hg hj hd hf
      obtain ⟨_, e14, rfl⟩ := hd 14 (by simp)
      obtain ⟨_, e15, rfl⟩ := hd 15 (by simp)
      refine rg_storeM 47 _ _ rfl gb (m * 4) (encW y2) (e15 31 rfl) (e14 30 rfl) (List.all_eq_true.2 (encW_one y2)) 47 cl (HBC.out.below (hj.resolve_right (fun h => h.1 rfl))) 4 (encW_len y2) (by have := HCL.out; omega) infoWs ?_
      intro u hbx hgr
      exact ⟨_, rfl, .inr ⟨rfl, hgr, hbx⟩, trivial⟩
  · intro V v hg hbx h
    have HOWN : Hid (v.ownsRow W.heap.size 47 4 (.slice (some ⟨gb, 0, none⟩) (m + 1) cap) (m + 1) (wcells (turnL (setF now hid) s.words))) := Lib.hid (by
      have hlc := HCL.out
      have hts : turnL (setF now hid) s.words = l0 ++ [y2] := by rw [HSW.out, turnL_snoc, HYY.out]
      have hwc : wcells (l0 ++ [y2]) = wcells l0 ++ encW y2 := by simp [wcells]
      rw [hts]
      refine ⟨by rw [hwc, List.length_append, HLE.out, encW_len]; omega, .inr ⟨gb, cap, _, rfl, hgb, hbx, HCN.out.1, HCN.out.2, ?_, ?_⟩⟩
      · rw [List.size_toArray, length_splice _ _ _ (by rw [encW_len]; omega)]
        exact HCC.out
      · have e1 : cl.take (m * 4) = wcells l0 := by
          have h := congrArg (List.take (m * 4)) HTK.out
          rw [List.take_take, show min (m * 4) ((m + 1) * 4) = m * 4 by omega] at h
          rw [h, HSW.out, show wcells (l0 ++ [y]) = wcells l0 ++ encW y by simp [wcells], List.take_append_of_le_length (by rw [HLE.out]; exact Nat.le_refl _), List.take_of_length_le (by rw [HLE.out]; exact Nat.le_refl _)]
        show (splice cl (m * 4) (encW y2)).take ((m + 1) * 4) = _
        rw [hwc]
        unfold splice
        rw [e1, ← List.append_assoc]
        rw [List.take_append_of_le_length (by rw [List.length_append, HLE.out, encW_len]; omega), List.take_of_length_le (by rw [List.length_append, HLE.out, encW_len]; omega)])
    have HB3 := Lib.hid (below_grown HB1.out HB1.out.size hg (by omega))
    have HA3 := Lib.hid (HA1.out.grown hg (by omega))
    have HR3 := Lib.hid (HR1.out.grown hg (by omega))
    clear hg hbx h
    simp only [List.map_cons, List.map_nil, putD, Act.put, List.setIfInBounds_toArray, List.set_cons_succ, List.set_cons_zero, Nat.reduceAdd, Nat.zero_add]
    go_wp2_with (refine wp_storeF rfl 25 _ _ rfl w.heap.size 4 _ rfl rfl rfl 28 _ HA3.out 15 rfl (by decide) info1w ?_)
    intro w4 hg4 hw4
    have hlen : (turnL (setF now hid) s.words).length = m + 1 := by rw [HSW.out, turnL_snoc, List.length_append, HM.out]; rfl
    have HA4 : Hid (Bx w4 w.heap.size 28 (stL { q with w := some ⟨gb, 0, none⟩, wc := cap } s')) := Lib.hid (by
      have e : (stL q s).set 4 (.slice (some ⟨gb, 0, none⟩) (m + 1) cap) = stL { q with w := some ⟨gb, 0, none⟩, wc := cap } s' := by
        rw [← HR.out]
        unfold stL
        rw [show ({ s with words := turnL (setF now hid) s.words } : Ps).words.length = m + 1 from hlen]
        rfl
      rw [← e]
      exact hg4)
    have HR4 := Lib.hid (HR3.out.grown hw4 (by omega))
    have HB4 := Lib.hid (below_grown HB3.out HB3.out.size hw4 (Nat.le_refl _))
    have HO4 := Lib.hid (own_keep HOWN.out hw4 (by omega))
    have hLW : ∀ S : Nat → Prop, Lies q s S → Lies { q with w := some ⟨gb, 0, none⟩, wc := cap } s' (fun b => S b ∨ W.heap.size ≤ b) := fun S hS => by
      rw [← HR.out]
      exact (hS.mono (fun b hb => Or.inl hb)).withWords (fun _ ad e => .inr (by cases e; exact hgb))
    have HLW := Lib.hid hLW
    have HP4 : Hid (RdP w4 { q with w := some ⟨gb, 0, none⟩, wc := cap } s') := Lib.hid (by
      rw [← HR.out]
      refine (HP.out.below HB4.out).withWords ?_
      have h := own_rd HO4.out
      show Rd _ _ (turnL (setF now hid) s.words).length cap 4 (wcells (turnL (setF now hid) s.words))
      rw [hlen]
      exact h)
    clear hg4 hw4 hLW hlen
    go_wp2_with (first
      | (refine wp_loadS rfl 28 _ rfl w.heap.size rfl 28 _ _ HA4.out Tryz.underlying28 rfl 15 infoSt rfl ?_)
      | (refine wp_storeS rfl 28 _ _ rfl (w.heap.size + 1) (stL { q with w := some ⟨gb, 0, none⟩, wc := cap } s') rfl rfl 28 _ HR4.out 15 infoSt rfl rfl (stL_one _ _) ?_))
    intro w5 hg5 hw5
    have HG := Lib.hid hg5
    have HB5 := Lib.hid (below_grown HB4.out HB4.out.size hw5 (by omega))
    have HP5 := Lib.hid (HP4.out.grown (HLW.out _ HP.out.lies) hw5 (by omega))
    clear hg5 hw5
    go_wp2
    refine bodyPost_ret (v := stV { q with w := some ⟨gb, 0, none⟩, wc := cap } s') (results_S1 Tryz.results79 _ _ (w.heap.size + 1) 28 _ _ rfl HG.out Tryz.underlying28 rfl 15 infoSt rfl) rfl ?_
    exact ⟨_, rfl, ⟨HP5.out, fun S hS => (HLW.out S hS).mono (fun b hb => hb.imp id (fun h => by omega))⟩, HB5.out⟩
end Go.Proofs.YtappfhjknihboaaGreatDoor
