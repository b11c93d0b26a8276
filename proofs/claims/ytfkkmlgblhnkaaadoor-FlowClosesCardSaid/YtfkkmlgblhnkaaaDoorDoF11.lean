
/- flow.Do, word for word. -/
import Derived.Test.YtfkkmlgblhnkaaaDoorTabF11
namespace Go.Proofs.YtfkkmlgblhnkaaaDoor
open Go.RowKit

theorem wp_lookup {P : Program} {ops : Array Oper} {rest : List Oper} {o : Oper} {a : Act} {w : World} {Q : Exit → Act → World → Prop} (hgd : o.guard = none) (t : TypeId) (m k : Operand) (ho : o.op = .lookup t m k false)
    (vm vk v : Value) (hm : a.eval m = vm) (hk : a.eval k = vk) (hrun : (Instr.lookup t vm vk false).run P w = .ok v w)
    (h : wpList P ops Q rest (a.put o.dst v) w) : wpList P ops Q (o :: rest) a w := by
  refine wpList_plain hgd fun K' hK' => ?_
  unfold Oper.wp execOp
  simp only [ho, hm, hk, Sem.run_bind, hrun, Sem.run_pure, Result.andThen_ok]
  exact hK' _ _ h
/-- Three results, the first one a struct in a block. -/
theorem results_S3 {P : Program} {fn : Func} {p u v : Tmp} {ty : TypeId} (h : fn.results = #[.cell p ty, .tmp u, .tmp v]) (tmps : Array Value) (w : World) (g : Nat) (t : TypeId) (cs : List Value) (d : TypeDesc)
    (hp : tmps.getD p undef = .pointer (some ⟨g, 0, none⟩)) (hg : Bx w g t cs)
    (hu : P.underlying ty = some d) (hd : (match d with | .struct _ | .array _ _ => true | _ => false) = true) (m : Nat) (hi : (P.info? ty).map (·.size) = some m) (hm : cs.length = m) (r r2 : Value) (hr : tmps.getD u undef = r) (hr2 : tmps.getD v undef = r2) :
    (results fn tmps).run P w = .ok (.tuple #[.agg cs.toArray, r, r2]) w := by
  have hl := run_loadVar_row w g t ty cs.toArray (0, 0) d hg hu hd (by rw [hi, List.size_toArray, hm])
  have hp' : tmps[p]?.getD undef = .pointer (some ⟨g, 0, none⟩) := by simpa using hp
  have hr' : tmps[u]?.getD undef = r := by simpa using hr
  have hr2' : tmps[v]?.getD undef = r2 := by simpa using hr2
  simp [results, h, hp', hr', hr2', asAddr, hl, Result.andThen]
/-- What Do hands back. -/
def resF (x : Ps × Int) : Ps × Int × Bool := if x.2 = 0 then (x.1, 0, true) else (zeroP, x.2, true)

theorem fun_nil (f : Fn) (xs ys : Array Value) (w : World) : (binOp .eql 48 (.func f xs ys) .nilFunc).run Tryd.prog w = .ok (.bool false) w := by
  have u := Tryd.underlying48
  have e : (Op.equal 48 (.func f xs ys) .nilFunc).run Tryd.prog w = .ok false w := by
    unfold Op.equal
    obtain ⟨d, hd⟩ : ∃ d, Op.maxDepth = d + 1 := ⟨9999, rfl⟩
    rw [hd]
    simp [Op.equalIn, run_underlying u, Result.andThen]
  simp [binOp, e, Result.andThen]

set_option maxRecDepth 100000 in
set_option maxHeartbeats 4000000 in
theorem Do_core (k : Int) (nm : ByteArray) (i : Nat) (F : FuncId) (caps : Array Value) (q : Ad) (s s' : Ps) (e' : Int) (w : World) (hp : RdP w q s) (ht : Tab w) (hnm : nameR k = nm) (hfind : Instr.findNow .string (.string nm) (tabE (w.heap.size + 2)) 0 = some (some (i, .func (.func F) #[] caps))) (hent : ∀ (args : Array Value) (w : World), (callFunc F args).run Tryd.prog w = .ok (.enter F args) w)
    (hcl : ∀ (W : World) (g : Nat), TabF W (w.heap.size + 2) → w.heap.size + 7 ≤ g → Wk W g q s 0 → Calls Tryd.prog F (#[.pointer (some ⟨g, 0, none⟩)] ++ caps) W fun r w' => r = .returned (.tuple #[]) ∧ ∃ q', To g W q s w' q' s' e') :
    Calls Tryd.prog 10 #[stV q s, .int .i64 k] w fun r w' => ∃ q', r = .returned (.tuple #[stV q' (resF (s', e')).1, .int .i64 (resF (s', e')).2.1, .bool true]) ∧ Res w.heap.size q s w' q' (resF (s', e')).1 ∧ Below w.heap.size w w' := by
  have HNM := Lib.hid hnm
  have HFD := Lib.hid hfind
  have HCL := Lib.hid hcl
  have HP := Lib.hid hp
  have hbl := below_two (below_lit w (.cells (stL q s).toArray 28)) (below_lit _ (.cells (stL nilA zeroP).toArray 28))
  have HB0 := Lib.hid hbl
  have HT0 := Lib.hid (ht.below hbl)
  have HA0 : Hid (Bx ((w.alloc (.cells (stL q s).toArray 28)).alloc (.cells (stL nilA zeroP).toArray 28)) w.heap.size 28 (stL q s)) := Lib.hid ((Bx.new w _ _ _ _ rfl rfl).alloc _)
  have HR0 : Hid (Bx ((w.alloc (.cells (stL q s).toArray 28)).alloc (.cells (stL nilA zeroP).toArray 28)) (w.heap.size + 1) 28 (stL nilA zeroP)) := Lib.hid (Bx.new _ _ _ _ _ (by simp) rfl)
  have htab := TableF_any ((w.alloc (.cells (stL q s).toArray 28)).alloc (.cells (stL nilA zeroP).toArray 28))
  rw [show ((w.alloc (.cells (stL q s).toArray 28)).alloc (.cells (stL nilA zeroP).toArray 28)).heap.size = w.heap.size + 2 by simp] at htab
  have HTA := Lib.hid htab
  clear hp hbl ht htab hnm hfind hcl
  rw [stV_eq q s]
  go_enter Tryd.func10, Tryd.ntmps10
  go_wp2_with fail
  refine HTA.out.mono ?_
  rintro r w1 ⟨rfl, htf, hb1⟩
  have hB2 : ((w.alloc (.cells (stL q s).toArray 28)).alloc (.cells (stL nilA zeroP).toArray 28)).heap.size = w.heap.size + 2 := by simp
  have hb1' : Below ((w.alloc (.cells (stL q s).toArray 28)).alloc (.cells (stL nilA zeroP).toArray 28)).heap.size ((w.alloc (.cells (stL q s).toArray 28)).alloc (.cells (stL nilA zeroP).toArray 28)) w1 := by rw [hB2]; exact hb1
  have HTF := Lib.hid htf
  have HB1 := Lib.hid (below_two HB0.out hb1')
  have HA1 := Lib.hid (HA0.out.below hb1')
  have HR1 := Lib.hid (HR0.out.below hb1')
  have HT1 := Lib.hid (HT0.out.below hb1')
  have hs1 : w.heap.size + 7 ≤ w1.heap.size := by have := World.block_lt_of_cell? w1 _ htf.c4; simp at this; omega
  clear htf hb1 hb1' hB2
  go_wp2_with fail
  refine (Name_any k nm w1 HNM.out HT1.out).mono ?_
  rintro r w2 ⟨rfl, hb2⟩
  have HTF2 := Lib.hid (HTF.out.below hb2)
  have HB2 := Lib.hid (below_two HB1.out hb2)
  have HA2 := Lib.hid (HA1.out.below hb2)
  have HR2 := Lib.hid (HR1.out.below hb2)
  have hs2 : w.heap.size + 7 ≤ w2.heap.size := Nat.le_trans hs1 hb2.size
  have hget := run_get (P := Tryd.prog) (v := .func (.func F) #[] caps) (i := i) setMapU Tryd.underlying9 HTF2.out.mp (s := nm) HFD.out
  clear hb2
  go_wp2_with (refine wp_lookup rfl 49 _ _ rfl _ _ _ rfl rfl hget ?_)
  clear hget
  obtain ⟨⟨z0, z1, z2, z3, z4, z5, z6, z7, z8, z9, z10, z11, z12, z13, z14⟩, f0⟩ := And.intro HA2.out.st15 trivial
  have HBW := Lib.hid (below_lit w2 (.cells (wkL q s 0).toArray 53))
  have HW0 : Hid (Wk (w2.alloc (.cells (wkL q s 0).toArray 53)) w2.heap.size q s 0) := Lib.hid ⟨Bx.new w2 _ _ _ _ rfl rfl, (HP.out.below HB2.out).below HBW.out, HP.out.lies.mono (fun b hb => by omega)⟩
  have HTF3 := Lib.hid (HTF2.out.below HBW.out)
  have HB3 := Lib.hid (below_two HB2.out HBW.out)
  have HR3 := Lib.hid (HR2.out.below HBW.out)
  have HLS : Hid (Lies q s (fun b => b < w.heap.size)) := Lib.hid HP.out.lies
  have hs3 : w2.heap.size < (w2.alloc (.cells (wkL q s 0).toArray 53)).heap.size := by simp
  go_wp2_with fail
  rw [fun_nil]
  go_simp
  go_wp2_with fail
  refine (HCL.out (w2.alloc (.cells (wkL q s 0).toArray 53)) w2.heap.size HTF3.out hs2 HW0.out).mono ?_
  rintro r w4 ⟨rfl, q4, ht4⟩
  have HW4 := Lib.hid ht4.wk
  have HB4 : Hid (Below w.heap.size w w4) := Lib.hid (below_grown HB3.out (by omega) ht4.gr (by omega))
  have HR4 := Lib.hid (HR3.out.grown ht4.gr (by omega))
  have HL4 : Hid (∀ S, Lies q s S → Lies q4 s' (fun b => S b ∨ w2.heap.size ≤ b)) := Lib.hid (fun S hS => (ht4.lies S hS).mono (fun b hb => hb.imp id (fun h => by simp at h; omega)))
  have HL5 : Hid (Lies q4 s' (fun b => b ≠ w.heap.size + 1)) := Lib.hid ((HL4.out _ HLS.out).mono (fun b hb => by omega))
  have hs4 : w.heap.size ≤ w4.heap.size := HB4.out.size
  clear ht4 z0 z1 z2 z3 z4 z5 z6 z7 z8 z9 z10 z11 z12 z13 z14
  go_wp2_with fail
  by_cases he : e' = 0
  · subst he
    refine (Ok_any w2.heap.size 0 true _ rfl HW4.out.er).mono ?_
    rintro r w5 ⟨rfl, rfl⟩
    go_wp2_with (first
      | (refine wp_loadW rfl _ rfl w2.heap.size rfl q4 s' 0 HW4.out ?_)
      | (refine wp_storeS rfl 28 _ _ rfl (w.heap.size + 1) (stL q4 s') rfl rfl 28 _ HR4.out 15 infoSt rfl rfl rfl ?_))
    intro w6 hg6 hw6
    have HR6 := Lib.hid hg6
    have HB6 : Hid (Below w.heap.size w w6) := Lib.hid (below_grown HB4.out hs4 hw6 (by omega))
    have HRD := Lib.hid (HW4.out.rd.grown HL5.out hw6 (fun h => h rfl))
    clear hg6 hw6
    go_wp2
    refine bodyPost_ret (results_S3 rfl _ _ (w.heap.size + 1) 28 (stL q4 s') _ rfl HR6.out Tryd.underlying28 rfl 15 infoSt rfl _ _ rfl rfl) rfl ?_
    exact ⟨q4, rfl, ⟨HRD.out, fun S hS => (HL4.out S hS).mono (fun b hb => hb.imp id (fun h => by omega))⟩, HB6.out⟩
  · refine (Ok_any w2.heap.size e' false _ (by simpa using he) HW4.out.er).mono ?_
    rintro r w5 ⟨rfl, rfl⟩
    have c15 := HW4.out.er
    obtain ⟨⟨y0, y1, y2, y3, y4, y5, y6, y7, y8, y9, y10, y11, y12, y13, y14⟩, f0, f1, f2, f3, f4, f5, f6, f7, f8, f9, f10, f11, f12, f13, f14⟩ := HR4.out.z15
    go_wp2_with fail
    go_region
    all_goals
      have HRW := Lib.hid (show Bx _ (w.heap.size + 1) 28 (stL nilA zeroP) from (((((((((((((((HR4.out.setc 0 (.slice none 0 0)).setc 1 (.slice none 0 0)).setc 2 (.slice none 0 0)).setc 3 (.slice none 0 0)).setc 4 (.slice none 0 0)).setc 5 (.slice none 0 0)).setc 6 (.slice none 0 0)).setc 7 (.int .i64 0)).setc 8 (.int .i64 0)).setc 9 (.int .i64 0)).setc 10 (.int .i64 0)).setc 11 (.int .i64 0)).setc 12 (.int .i64 0)).setc 13 (.bool false)).setc 14 (.bool false)))
      have HBW2 : Hid (Below (w.heap.size + 1) w4 (((((((((((((((w4.setCell ⟨w.heap.size + 1, 0, none⟩ (.slice none 0 0)).setCell ⟨w.heap.size + 1, 1, none⟩ (.slice none 0 0)).setCell ⟨w.heap.size + 1, 2, none⟩ (.slice none 0 0)).setCell ⟨w.heap.size + 1, 3, none⟩ (.slice none 0 0)).setCell ⟨w.heap.size + 1, 4, none⟩ (.slice none 0 0)).setCell ⟨w.heap.size + 1, 5, none⟩ (.slice none 0 0)).setCell ⟨w.heap.size + 1, 6, none⟩ (.slice none 0 0)).setCell ⟨w.heap.size + 1, 7, none⟩ (.int .i64 0)).setCell ⟨w.heap.size + 1, 8, none⟩ (.int .i64 0)).setCell ⟨w.heap.size + 1, 9, none⟩ (.int .i64 0)).setCell ⟨w.heap.size + 1, 10, none⟩ (.int .i64 0)).setCell ⟨w.heap.size + 1, 11, none⟩ (.int .i64 0)).setCell ⟨w.heap.size + 1, 12, none⟩ (.int .i64 0)).setCell ⟨w.heap.size + 1, 13, none⟩ (.bool false)).setCell ⟨w.heap.size + 1, 14, none⟩ (.bool false))) := Lib.hid (by (iterate 15 refine below_set ?_); exact Below.refl _ _)
      generalize (((((((((((((((w4.setCell ⟨w.heap.size + 1, 0, none⟩ (.slice none 0 0)).setCell ⟨w.heap.size + 1, 1, none⟩ (.slice none 0 0)).setCell ⟨w.heap.size + 1, 2, none⟩ (.slice none 0 0)).setCell ⟨w.heap.size + 1, 3, none⟩ (.slice none 0 0)).setCell ⟨w.heap.size + 1, 4, none⟩ (.slice none 0 0)).setCell ⟨w.heap.size + 1, 5, none⟩ (.slice none 0 0)).setCell ⟨w.heap.size + 1, 6, none⟩ (.slice none 0 0)).setCell ⟨w.heap.size + 1, 7, none⟩ (.int .i64 0)).setCell ⟨w.heap.size + 1, 8, none⟩ (.int .i64 0)).setCell ⟨w.heap.size + 1, 9, none⟩ (.int .i64 0)).setCell ⟨w.heap.size + 1, 10, none⟩ (.int .i64 0)).setCell ⟨w.heap.size + 1, 11, none⟩ (.int .i64 0)).setCell ⟨w.heap.size + 1, 12, none⟩ (.int .i64 0)).setCell ⟨w.heap.size + 1, 13, none⟩ (.bool false)).setCell ⟨w.heap.size + 1, 14, none⟩ (.bool false)) = w6 at HRW HBW2 ⊢
      clear y0 y1 y2 y3 y4 y5 y6 y7 y8 y9 y10 y11 y12 y13 y14 f0 f1 f2 f3 f4 f5 f6 f7 f8 f9 f10 f11 f12 f13 f14 c15
      have HB6 := Lib.hid ((HB4.out.trans (HBW2.out.mono (by omega))).drew)
      have HRE : Hid (resF (s', e') = (zeroP, e', true)) := Lib.hid (by unfold resF; rw [if_neg he])
      clear HBW2
      go_wp2
      refine bodyPost_ret (results_S3 rfl _ _ (w.heap.size + 1) 28 (stL nilA zeroP) _ rfl (show Bx w6.drew _ _ _ from HRW.out) Tryd.underlying28 rfl 15 infoSt rfl _ _ rfl rfl) rfl ?_
      rw [HRE.out]
      exact ⟨nilA, rfl, Res.zero _ _ _ _, HB6.out⟩

def keysF : List ByteArray := [⟨#[73, 70]⟩, ⟨#[66, 69, 71, 73, 78]⟩, ⟨#[68, 79]⟩, ⟨#[65, 71, 65, 73, 78]⟩, ⟨#[85, 78, 84, 73, 76]⟩, ⟨#[76, 79, 79, 80]⟩, ⟨#[43, 76, 79, 79, 80]⟩, ⟨#[84, 72, 69, 78]⟩, ⟨#[69, 76, 83, 69]⟩, ⟨#[87, 72, 73, 76, 69]⟩, ⟨#[82, 69, 80, 69, 65, 84]⟩, ⟨#[82, 69, 67, 85, 82, 83, 69]⟩]
theorem find_none {s : ByteArray} : ∀ (es : List MapEntry) (ks : List ByteArray) (i : Nat), es.map (·.key) = ks.map Value.string → (ks.all fun k => !(s == k)) = true → Instr.findNow .string (.string s) es i = some none
  | [], _, _, _, _ => rfl
  | e :: es, [], _, h, _ => by simp at h
  | e :: es, k :: ks, i, h, hk => by
    rw [List.map_cons, List.map_cons] at h
    injection h with h1 h2
    rw [List.all_cons, Bool.and_eq_true] at hk
    have hf : (s == k) = false := by simpa using hk.1
    have ih := find_none es ks (i + 1) h2 hk.2
    unfold Instr.findNow
    rw [h1]
    simp [Instr.sameNow, hf, ih]
theorem name_other {op : Int} (h : op < 98 ∨ 109 < op) : (keysF.all fun k => !(nameR op == k)) = true := by
  unfold nameR
  split
  · rename_i h1
    obtain ⟨k, hk⟩ : ∃ k : Nat, (op - 1).toNat = k := ⟨_, rfl⟩
    have h2 : k < 137 ∧ (k < 97 ∨ 108 < k) := by omega
    rw [hk]
    have hall : ∀ j, j < 137 → (j < 97 ∨ 108 < j) → (keysF.all fun x => !(nm j == x)) = true := by decide +kernel
    exact hall k h2.1 h2.2
  · decide +kernel
theorem zeroF (w : World) : (zeroValue 48).run Tryd.prog w = .ok .nilFunc w := by kernel_rfl
theorem nil_nil (w : World) : (binOp .eql 48 .nilFunc .nilFunc).run Tryd.prog w = .ok (.bool true) w := by
  have u := Tryd.underlying48
  have e : (Op.equal 48 .nilFunc .nilFunc).run Tryd.prog w = .ok true w := by
    unfold Op.equal
    obtain ⟨d, hd⟩ : ∃ d, Op.maxDepth = d + 1 := ⟨9999, rfl⟩
    rw [hd]
    simp [Op.equalIn, run_underlying u, Result.andThen]
  simp [binOp, e, Result.andThen]

set_option maxRecDepth 100000 in
set_option maxHeartbeats 4000000 in
theorem Do_none (op : Int) (q : Ad) (s : Ps) (w : World) (ho : op < 98 ∨ 109 < op) (ht : Tab w) :
    Calls Tryd.prog 10 #[stV q s, .int .i64 op] w fun r w' => r = .returned (.tuple #[stV nilA zeroP, .int .i64 0, .bool false]) ∧ Below w.heap.size w w' := by
  have hbl := below_two (below_lit w (.cells (stL q s).toArray 28)) (below_lit _ (.cells (stL nilA zeroP).toArray 28))
  have HB0 := Lib.hid hbl
  have HT0 := Lib.hid (ht.below hbl)
  have HR0 : Hid (Bx ((w.alloc (.cells (stL q s).toArray 28)).alloc (.cells (stL nilA zeroP).toArray 28)) (w.heap.size + 1) 28 (stL nilA zeroP)) := Lib.hid (Bx.new _ _ _ _ _ (by simp) rfl)
  have htab := TableF_any ((w.alloc (.cells (stL q s).toArray 28)).alloc (.cells (stL nilA zeroP).toArray 28))
  rw [show ((w.alloc (.cells (stL q s).toArray 28)).alloc (.cells (stL nilA zeroP).toArray 28)).heap.size = w.heap.size + 2 by simp] at htab
  have HTA := Lib.hid htab
  obtain ⟨nm, hnm⟩ : ∃ nm, nameR op = nm := ⟨_, rfl⟩
  have hfind : ∀ r, Instr.findNow .string (.string nm) (tabE r) 0 = some none := fun r => find_none (tabE r) keysF 0 rfl (by rw [← hnm]; exact name_other ho)
  have HNM := Lib.hid hnm
  have HFD := Lib.hid hfind
  clear hbl ht htab hnm hfind
  rw [stV_eq q s]
  go_enter Tryd.func10, Tryd.ntmps10
  go_wp2_with fail
  refine HTA.out.mono ?_
  rintro r w1 ⟨rfl, htf, hb1⟩
  have hB2 : ((w.alloc (.cells (stL q s).toArray 28)).alloc (.cells (stL nilA zeroP).toArray 28)).heap.size = w.heap.size + 2 := by simp
  have hb1' : Below ((w.alloc (.cells (stL q s).toArray 28)).alloc (.cells (stL nilA zeroP).toArray 28)).heap.size ((w.alloc (.cells (stL q s).toArray 28)).alloc (.cells (stL nilA zeroP).toArray 28)) w1 := by rw [hB2]; exact hb1
  have HTF := Lib.hid htf
  have HB1 := Lib.hid (below_two HB0.out hb1')
  have HR1 := Lib.hid (HR0.out.below hb1')
  have HT1 := Lib.hid (HT0.out.below hb1')
  clear htf hb1 hb1' hB2
  go_wp2_with fail
  refine (Name_any op nm w1 HNM.out HT1.out).mono ?_
  rintro r w2 ⟨rfl, hb2⟩
  have HTF2 := Lib.hid (HTF.out.below hb2)
  have HB2 := Lib.hid (below_two HB1.out hb2)
  have HR2 := Lib.hid (HR1.out.below hb2)
  have hget := run_get_none (P := Tryd.prog) setMapU Tryd.underlying9 (zeroF w2) HTF2.out.mp (s := nm) (HFD.out _)
  have hs2 := HB2.out.size
  clear hb2
  go_wp2_with (refine wp_lookup rfl 49 _ _ rfl _ _ _ rfl rfl hget ?_)
  clear hget
  go_wp2_with fail
  rw [nil_nil]
  go_simp
  go_wp2_with (refine wp_storeS rfl 28 _ _ rfl (w.heap.size + 1) (stL nilA zeroP) rfl rfl 28 _ HR2.out 15 infoSt rfl rfl rfl ?_)
  intro w6 hg6 hw6
  have HR6 := Lib.hid hg6
  have HB6 : Hid (Below w.heap.size w w6) := Lib.hid (below_grown HB2.out hs2 hw6 (by omega))
  clear hg6 hw6
  go_wp2
  refine bodyPost_ret (results_S3 rfl _ _ (w.heap.size + 1) 28 (stL nilA zeroP) _ rfl HR6.out Tryd.underlying28 rfl 15 infoSt rfl _ _ rfl rfl) rfl ?_
  exact ⟨rfl, HB6.out⟩

/-! ### The words -/
def doF (s : Ps) (op : Int) : Ps × Int × Bool :=
  if op = 98 then resF (forwardW (s, 0) 4 1) else if op = 99 then resF (elseW (s, 0)) else if op = 100 then resF (thenW (s, 0)) else if op = 101 then resF (beginW (s, 0))
  else if op = 102 then resF (backW (s, 0) 3) else if op = 103 then resF (backW (s, 0) 4) else if op = 104 then resF (whileW (s, 0)) else if op = 105 then resF (repeatW (s, 0))
  else if op = 106 then resF (forwardW (s, 0) 5 3) else if op = 107 then resF (shutW (s, 0) 6) else if op = 108 then resF (shutW (s, 0) 7) else if op = 109 then resF (recurseW (s, 0))
  else (zeroP, 0, false)
end Go.Proofs.YtfkkmlgblhnkaaaDoor
