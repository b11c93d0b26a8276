/-  -/
import Derived.Test.YtappfhjknihboaaGreatDoorMJ
import Derived.Test.YtappfhjknihboaaGreatDoorMA
import Derived.Test.YtappfhjknihboaaGreatDoorMD
import Derived.Test.YtappfhjknihboaaGreatDoorML

/- defs.makers and defs.readers: maps of functions. -/
namespace Go.Proofs.YtappfhjknihboaaGreatDoor
open Go.RowKit

theorem setMapD : Tryz.prog.underlying 57 = some (.map 9 56) := Tryz.underlying57
def mkE : List MapEntry := [{ key := .string ⟨#[58]⟩, val := .func (.func 43) #[] #[], born := 0 },
  { key := .string ⟨#[59]⟩, val := .func (.func 45) #[] #[], born := 1 },
  { key := .string ⟨#[67, 79, 78, 83, 84, 65, 78, 84]⟩, val := .func (.func 46) #[] #[], born := 2 },
  { key := .string ⟨#[67, 82, 69, 65, 84, 69]⟩, val := .func (.func 48) #[] #[], born := 3 },
  { key := .string ⟨#[77, 65, 82, 75, 69, 82]⟩, val := .func (.func 49) #[] #[], born := 4 },
  { key := .string ⟨#[68, 79, 69, 83, 62]⟩, val := .func (.func 50) #[] #[], born := 5 },
  { key := .string ⟨#[86, 65, 82, 73, 65, 66, 76, 69]⟩, val := .func (.func 52) #[] #[], born := 6 },
  { key := .string ⟨#[73, 77, 77, 69, 68, 73, 65, 84, 69]⟩, val := .func (.func 55) #[] #[], born := 7 }]
def mkK : List ByteArray := [⟨#[58]⟩, ⟨#[59]⟩, ⟨#[67, 79, 78, 83, 84, 65, 78, 84]⟩, ⟨#[67, 82, 69, 65, 84, 69]⟩, ⟨#[77, 65, 82, 75, 69, 82]⟩, ⟨#[68, 79, 69, 83, 62]⟩, ⟨#[86, 65, 82, 73, 65, 66, 76, 69]⟩, ⟨#[73, 77, 77, 69, 68, 73, 65, 84, 69]⟩]
set_option maxRecDepth 100000 in
set_option maxHeartbeats 4000000 in
theorem mk_any (w : World) : Calls Tryz.prog 22 #[] w fun e w' => e = .returned (.map (some w.heap.size)) ∧ Mp w' w.heap.size mkE.toArray 8 ∧ Below w.heap.size w w' := by
  have hmm := @run_makeMap Tryz.prog
  have HM0 : Hid (Mp (w.alloc (.map #[] 0)) w.heap.size (mkE.take 0).toArray 0) := Lib.hid (Mp.new w)
  have HB0 := Lib.hid (below_lit w (.map #[] 0))
  go_enter Tryz.func22, Tryz.ntmps22
  go_wp2_with (refine wp_set rfl 57 _ _ _ rfl w.heap.size ⟨#[58]⟩ (.func (.func 43) #[] #[]) rfl rfl rfl 9 56 setMapD Tryz.underlying9 0 _ HM0.out (by kernel_rfl) ?_)
  intro w1 hm hg hsz
  have HM1 : Hid (Mp w1 w.heap.size (mkE.take 1).toArray 1) := Lib.hid hm
  have HB1 := Lib.hid (below_grown HB0.out HB0.out.size hg (Nat.le_refl _))
  clear hm hg hsz
  go_wp2_with (refine wp_set rfl 57 _ _ _ rfl w.heap.size ⟨#[59]⟩ (.func (.func 45) #[] #[]) rfl rfl rfl 9 56 setMapD Tryz.underlying9 1 _ HM1.out (by kernel_rfl) ?_)
  intro w2 hm hg hsz
  have HM2 : Hid (Mp w2 w.heap.size (mkE.take 2).toArray 2) := Lib.hid hm
  have HB2 := Lib.hid (below_grown HB1.out HB1.out.size hg (Nat.le_refl _))
  clear hm hg hsz
  go_wp2_with (refine wp_set rfl 57 _ _ _ rfl w.heap.size ⟨#[67, 79, 78, 83, 84, 65, 78, 84]⟩ (.func (.func 46) #[] #[]) rfl rfl rfl 9 56 setMapD Tryz.underlying9 2 _ HM2.out (by kernel_rfl) ?_)
  intro w3 hm hg hsz
  have HM3 : Hid (Mp w3 w.heap.size (mkE.take 3).toArray 3) := Lib.hid hm
  have HB3 := Lib.hid (below_grown HB2.out HB2.out.size hg (Nat.le_refl _))
  clear hm hg hsz
  go_wp2_with (refine wp_set rfl 57 _ _ _ rfl w.heap.size ⟨#[67, 82, 69, 65, 84, 69]⟩ (.func (.func 48) #[] #[]) rfl rfl rfl 9 56 setMapD Tryz.underlying9 3 _ HM3.out (by kernel_rfl) ?_)
  intro w4 hm hg hsz
  have HM4 : Hid (Mp w4 w.heap.size (mkE.take 4).toArray 4) := Lib.hid hm
  have HB4 := Lib.hid (below_grown HB3.out HB3.out.size hg (Nat.le_refl _))
  clear hm hg hsz
  go_wp2_with (refine wp_set rfl 57 _ _ _ rfl w.heap.size ⟨#[77, 65, 82, 75, 69, 82]⟩ (.func (.func 49) #[] #[]) rfl rfl rfl 9 56 setMapD Tryz.underlying9 4 _ HM4.out (by kernel_rfl) ?_)
  intro w5 hm hg hsz
  have HM5 : Hid (Mp w5 w.heap.size (mkE.take 5).toArray 5) := Lib.hid hm
  have HB5 := Lib.hid (below_grown HB4.out HB4.out.size hg (Nat.le_refl _))
  clear hm hg hsz
  go_wp2_with (refine wp_set rfl 57 _ _ _ rfl w.heap.size ⟨#[68, 79, 69, 83, 62]⟩ (.func (.func 50) #[] #[]) rfl rfl rfl 9 56 setMapD Tryz.underlying9 5 _ HM5.out (by kernel_rfl) ?_)
  intro w6 hm hg hsz
  have HM6 : Hid (Mp w6 w.heap.size (mkE.take 6).toArray 6) := Lib.hid hm
  have HB6 := Lib.hid (below_grown HB5.out HB5.out.size hg (Nat.le_refl _))
  clear hm hg hsz
  go_wp2_with (refine wp_set rfl 57 _ _ _ rfl w.heap.size ⟨#[86, 65, 82, 73, 65, 66, 76, 69]⟩ (.func (.func 52) #[] #[]) rfl rfl rfl 9 56 setMapD Tryz.underlying9 6 _ HM6.out (by kernel_rfl) ?_)
  intro w7 hm hg hsz
  have HM7 : Hid (Mp w7 w.heap.size (mkE.take 7).toArray 7) := Lib.hid hm
  have HB7 := Lib.hid (below_grown HB6.out HB6.out.size hg (Nat.le_refl _))
  clear hm hg hsz
  go_wp2_with (refine wp_set rfl 57 _ _ _ rfl w.heap.size ⟨#[73, 77, 77, 69, 68, 73, 65, 84, 69]⟩ (.func (.func 55) #[] #[]) rfl rfl rfl 9 56 setMapD Tryz.underlying9 7 _ HM7.out (by kernel_rfl) ?_)
  intro w8 hm hg hsz
  have HM8 : Hid (Mp w8 w.heap.size (mkE.take 8).toArray 8) := Lib.hid hm
  have HB8 := Lib.hid (below_grown HB7.out HB7.out.size hg (Nat.le_refl _))
  clear hm hg hsz
  go_wp2
  go_ret
  exact ⟨rfl, HM8.out, HB8.out⟩
def rdE : List MapEntry := [{ key := .string ⟨#[39]⟩, val := .func (.func 61) #[] #[], born := 0 },
  { key := .string ⟨#[91, 39, 93]⟩, val := .func (.func 64) #[] #[], born := 1 },
  { key := .string ⟨#[76, 73, 84, 69, 82, 65, 76]⟩, val := .func (.func 65) #[] #[], born := 2 },
  { key := .string ⟨#[91]⟩, val := .func (.func 66) #[] #[], born := 3 },
  { key := .string ⟨#[93]⟩, val := .func (.func 67) #[] #[], born := 4 },
  { key := .string ⟨#[67, 72, 65, 82]⟩, val := .func (.func 68) #[] #[], born := 5 },
  { key := .string ⟨#[91, 67, 72, 65, 82, 93]⟩, val := .func (.func 70) #[] #[], born := 6 },
  { key := .string ⟨#[40]⟩, val := .func (.func 71) #[] #[], born := 7 },
  { key := .string ⟨#[92]⟩, val := .func (.func 73) #[] #[], born := 8 },
  { key := .string ⟨#[46, 34]⟩, val := .func (.func 75) #[] #[], born := 9 },
  { key := .string ⟨#[80, 79, 83, 84, 80, 79, 78, 69]⟩, val := .func (.func 76) #[] #[], born := 10 }]
def rdK : List ByteArray := [⟨#[39]⟩, ⟨#[91, 39, 93]⟩, ⟨#[76, 73, 84, 69, 82, 65, 76]⟩, ⟨#[91]⟩, ⟨#[93]⟩, ⟨#[67, 72, 65, 82]⟩, ⟨#[91, 67, 72, 65, 82, 93]⟩, ⟨#[40]⟩, ⟨#[92]⟩, ⟨#[46, 34]⟩, ⟨#[80, 79, 83, 84, 80, 79, 78, 69]⟩]
set_option maxRecDepth 100000 in
set_option maxHeartbeats 4000000 in
theorem rd_any (w : World) : Calls Tryz.prog 24 #[] w fun e w' => e = .returned (.map (some w.heap.size)) ∧ Mp w' w.heap.size rdE.toArray 11 ∧ Below w.heap.size w w' := by
  have hmm := @run_makeMap Tryz.prog
  have HM0 : Hid (Mp (w.alloc (.map #[] 0)) w.heap.size (rdE.take 0).toArray 0) := Lib.hid (Mp.new w)
  have HB0 := Lib.hid (below_lit w (.map #[] 0))
  go_enter Tryz.func24, Tryz.ntmps24
  go_wp2_with (refine wp_set rfl 57 _ _ _ rfl w.heap.size ⟨#[39]⟩ (.func (.func 61) #[] #[]) rfl rfl rfl 9 56 setMapD Tryz.underlying9 0 _ HM0.out (by kernel_rfl) ?_)
  intro w1 hm hg hsz
  have HM1 : Hid (Mp w1 w.heap.size (rdE.take 1).toArray 1) := Lib.hid hm
  have HB1 := Lib.hid (below_grown HB0.out HB0.out.size hg (Nat.le_refl _))
  clear hm hg hsz
  go_wp2_with (refine wp_set rfl 57 _ _ _ rfl w.heap.size ⟨#[91, 39, 93]⟩ (.func (.func 64) #[] #[]) rfl rfl rfl 9 56 setMapD Tryz.underlying9 1 _ HM1.out (by kernel_rfl) ?_)
  intro w2 hm hg hsz
  have HM2 : Hid (Mp w2 w.heap.size (rdE.take 2).toArray 2) := Lib.hid hm
  have HB2 := Lib.hid (below_grown HB1.out HB1.out.size hg (Nat.le_refl _))
  clear hm hg hsz
  go_wp2_with (refine wp_set rfl 57 _ _ _ rfl w.heap.size ⟨#[76, 73, 84, 69, 82, 65, 76]⟩ (.func (.func 65) #[] #[]) rfl rfl rfl 9 56 setMapD Tryz.underlying9 2 _ HM2.out (by kernel_rfl) ?_)
  intro w3 hm hg hsz
  have HM3 : Hid (Mp w3 w.heap.size (rdE.take 3).toArray 3) := Lib.hid hm
  have HB3 := Lib.hid (below_grown HB2.out HB2.out.size hg (Nat.le_refl _))
  clear hm hg hsz
  go_wp2_with (refine wp_set rfl 57 _ _ _ rfl w.heap.size ⟨#[91]⟩ (.func (.func 66) #[] #[]) rfl rfl rfl 9 56 setMapD Tryz.underlying9 3 _ HM3.out (by kernel_rfl) ?_)
  intro w4 hm hg hsz
  have HM4 : Hid (Mp w4 w.heap.size (rdE.take 4).toArray 4) := Lib.hid hm
  have HB4 := Lib.hid (below_grown HB3.out HB3.out.size hg (Nat.le_refl _))
  clear hm hg hsz
  go_wp2_with (refine wp_set rfl 57 _ _ _ rfl w.heap.size ⟨#[93]⟩ (.func (.func 67) #[] #[]) rfl rfl rfl 9 56 setMapD Tryz.underlying9 4 _ HM4.out (by kernel_rfl) ?_)
  intro w5 hm hg hsz
  have HM5 : Hid (Mp w5 w.heap.size (rdE.take 5).toArray 5) := Lib.hid hm
  have HB5 := Lib.hid (below_grown HB4.out HB4.out.size hg (Nat.le_refl _))
  clear hm hg hsz
  go_wp2_with (refine wp_set rfl 57 _ _ _ rfl w.heap.size ⟨#[67, 72, 65, 82]⟩ (.func (.func 68) #[] #[]) rfl rfl rfl 9 56 setMapD Tryz.underlying9 5 _ HM5.out (by kernel_rfl) ?_)
  intro w6 hm hg hsz
  have HM6 : Hid (Mp w6 w.heap.size (rdE.take 6).toArray 6) := Lib.hid hm
  have HB6 := Lib.hid (below_grown HB5.out HB5.out.size hg (Nat.le_refl _))
  clear hm hg hsz
  go_wp2_with (refine wp_set rfl 57 _ _ _ rfl w.heap.size ⟨#[91, 67, 72, 65, 82, 93]⟩ (.func (.func 70) #[] #[]) rfl rfl rfl 9 56 setMapD Tryz.underlying9 6 _ HM6.out (by kernel_rfl) ?_)
  intro w7 hm hg hsz
  have HM7 : Hid (Mp w7 w.heap.size (rdE.take 7).toArray 7) := Lib.hid hm
  have HB7 := Lib.hid (below_grown HB6.out HB6.out.size hg (Nat.le_refl _))
  clear hm hg hsz
  go_wp2_with (refine wp_set rfl 57 _ _ _ rfl w.heap.size ⟨#[40]⟩ (.func (.func 71) #[] #[]) rfl rfl rfl 9 56 setMapD Tryz.underlying9 7 _ HM7.out (by kernel_rfl) ?_)
  intro w8 hm hg hsz
  have HM8 : Hid (Mp w8 w.heap.size (rdE.take 8).toArray 8) := Lib.hid hm
  have HB8 := Lib.hid (below_grown HB7.out HB7.out.size hg (Nat.le_refl _))
  clear hm hg hsz
  go_wp2_with (refine wp_set rfl 57 _ _ _ rfl w.heap.size ⟨#[92]⟩ (.func (.func 73) #[] #[]) rfl rfl rfl 9 56 setMapD Tryz.underlying9 8 _ HM8.out (by kernel_rfl) ?_)
  intro w9 hm hg hsz
  have HM9 : Hid (Mp w9 w.heap.size (rdE.take 9).toArray 9) := Lib.hid hm
  have HB9 := Lib.hid (below_grown HB8.out HB8.out.size hg (Nat.le_refl _))
  clear hm hg hsz
  go_wp2_with (refine wp_set rfl 57 _ _ _ rfl w.heap.size ⟨#[46, 34]⟩ (.func (.func 75) #[] #[]) rfl rfl rfl 9 56 setMapD Tryz.underlying9 9 _ HM9.out (by kernel_rfl) ?_)
  intro w10 hm hg hsz
  have HM10 : Hid (Mp w10 w.heap.size (rdE.take 10).toArray 10) := Lib.hid hm
  have HB10 := Lib.hid (below_grown HB9.out HB9.out.size hg (Nat.le_refl _))
  clear hm hg hsz
  go_wp2_with (refine wp_set rfl 57 _ _ _ rfl w.heap.size ⟨#[80, 79, 83, 84, 80, 79, 78, 69]⟩ (.func (.func 76) #[] #[]) rfl rfl rfl 9 56 setMapD Tryz.underlying9 10 _ HM10.out (by kernel_rfl) ?_)
  intro w11 hm hg hsz
  have HM11 : Hid (Mp w11 w.heap.size (rdE.take 11).toArray 11) := Lib.hid hm
  have HB11 := Lib.hid (below_grown HB10.out HB10.out.size hg (Nat.le_refl _))
  clear hm hg hsz
  go_wp2
  go_ret
  exact ⟨rfl, HM11.out, HB11.out⟩
end Go.Proofs.YtappfhjknihboaaGreatDoor


/- defs.Do, by its two tables. -/
namespace Go.Proofs.YtappfhjknihboaaGreatDoor
open Go.RowKit

theorem wp_lookup {P : Program} {ops : Array Oper} {rest : List Oper} {o : Oper} {a : Act} {w : World} {Q : Exit → Act → World → Prop} (hgd : o.guard = none) (t : TypeId) (m k : Operand) (ho : o.op = .lookup t m k false)
    (vm vk v : Value) (hm : a.eval m = vm) (hk : a.eval k = vk) (hrun : (Instr.lookup t vm vk false).run P w = .ok v w)
    (h : wpList P ops Q rest (a.put o.dst v) w) : wpList P ops Q (o :: rest) a w := by
  refine wpList_plain hgd fun K' hK' => ?_
  unfold Oper.wp execOp
  simp only [ho, hm, hk, Sem.run_bind, hrun, Sem.run_pure, Result.andThen_ok]
  exact hK' _ _ h
/-- Three results, the first one a struct in a block. -/
theorem results_S3 {P : Program} {fn : Func} {p u v : Tmp} {ty : TypeId} (h : fn.results = #[.cell p ty, .tmp u, .tmp v]) (tmps : Array Value) (w : World) (g : Nat) (t : TypeId) (cs : List Value) (d : TypeDesc)
    (hp : tmps.getD p undef = .pointer (some ⟨g, 0, none⟩)) (hg : Bx w g t cs)
    (hu : P.underlying ty = some d) (hd : (match d with | .struct _ | .array _ _ => true | _ => false) = true) (m : Nat) (hi : (P.info? ty).map (·.size) = some m) (hm : cs.length = m) (r r2 : Value) (hr : tmps.getD u undef = r) (hr2 : tmps.getD v undef = r2) :
    (results fn tmps).run P w = .ok (.tuple #[.agg cs.toArray, r, r2]) w := by
  have hl := run_loadVar_row w g t ty cs.toArray (0, 0) d hg hu hd (by rw [hi, List.size_toArray, hm])
  have hp' : tmps[p]?.getD undef = .pointer (some ⟨g, 0, none⟩) := by simpa using hp
  have hr' : tmps[u]?.getD undef = r := by simpa using hr
  have hr2' : tmps[v]?.getD undef = r2 := by simpa using hr2
  simp [results, h, hp', hr', hr2', asAddr, hl, Result.andThen]
/-- What Do hands back. -/
def resF (x : Ps × Int) : Ps × Int × Bool := if x.2 = 0 then (x.1, 0, true) else (zeroP, x.2, true)

theorem fun_nilD (f : Fn) (xs ys : Array Value) (w : World) : (binOp .eql 56 (.func f xs ys) .nilFunc).run Tryz.prog w = .ok (.bool false) w := by
  have u := Tryz.underlying56
  have e : (Op.equal 56 (.func f xs ys) .nilFunc).run Tryz.prog w = .ok false w := by
    unfold Op.equal
    obtain ⟨d, hd⟩ : ∃ d, Op.maxDepth = d + 1 := ⟨9999, rfl⟩
    rw [hd]
    simp [Op.equalIn, run_underlying u, Result.andThen]
  simp [binOp, e, Result.andThen]

theorem find_none {s : ByteArray} : ∀ (es : List MapEntry) (ks : List ByteArray) (i : Nat), es.map (·.key) = ks.map Value.string → (ks.all fun k => !(s == k)) = true → Instr.findNow .string (.string s) es i = some none
  | [], _, _, _, _ => rfl
  | e :: es, [], _, h, _ => by simp at h
  | e :: es, k :: ks, i, h, hk => by
    rw [List.map_cons, List.map_cons] at h
    injection h with h1 h2
    rw [List.all_cons, Bool.and_eq_true] at hk
    have hf : (s == k) = false := by simpa using hk.1
    have ih := find_none es ks (i + 1) h2 hk.2
    unfold Instr.findNow
    rw [h1]
    simp [Instr.sameNow, hf, ih]
theorem zeroD (w : World) : (zeroValue 56).run Tryz.prog w = .ok .nilFunc w := by kernel_rfl
theorem nil_nilD (w : World) : (binOp .eql 56 .nilFunc .nilFunc).run Tryz.prog w = .ok (.bool true) w := by
  have u := Tryz.underlying56
  have e : (Op.equal 56 .nilFunc .nilFunc).run Tryz.prog w = .ok true w := by
    unfold Op.equal
    obtain ⟨d, hd⟩ : ∃ d, Op.maxDepth = d + 1 := ⟨9999, rfl⟩
    rw [hd]
    simp [Op.equalIn, run_underlying u, Result.andThen]
  simp [binOp, e, Result.andThen]

set_option maxRecDepth 100000 in
set_option maxHeartbeats 8000000 in
theorem DoM_core (k : Int) (nm : ByteArray) (i : Nat) (F : FuncId) (q : Ad) (s : Ps) (x : Sx) (s' : Ps) (e' : Int) (w : World) (hp : RdP w q s) (ht : Tab w) (hnm : nameR k = nm) (hfind : Instr.findNow .string (.string nm) mkE 0 = some (some (i, .func (.func F) #[] #[]))) (hent : ∀ (args : Array Value) (w : World), (callFunc F args).run Tryz.prog w = .ok (.enter F args) w)
    (hcl : ∀ (W : World) (g : Nat), TabG g W → Dk W g q s x 0 → Calls Tryz.prog F #[.pointer (some ⟨g, 0, none⟩)] W fun r w' => r = .returned (.tuple #[]) ∧ ∃ q', Td g W q s w' q' s' x e') :
    Calls Tryz.prog 10 #[stV q s, suV x, .int .i64 k] w fun r w' => ∃ q', r = .returned (.tuple #[stV q' (resF (s', e')).1, .int .i64 (resF (s', e')).2.1, .bool true]) ∧ Res w.heap.size q s w' q' (resF (s', e')).1 ∧ Below w.heap.size w w' := by
  have HFD := Lib.hid hfind
  have HCL := Lib.hid hcl
  clear hfind hcl
  have hB0 := below_two (below_two (below_lit w (.cells (stL q s).toArray 28)) (below_lit _ (.cells (suL x).toArray 30))) (below_lit _ (.cells (stL nilA zeroP).toArray 28))
  have hS : Bx (((w.alloc (.cells (stL q s).toArray 28)).alloc (.cells (suL x).toArray 30)).alloc (.cells (stL nilA zeroP).toArray 28)) w.heap.size 28 (stL q s) := ((Bx.new w _ _ _ _ rfl rfl).alloc _).alloc _
  have hX : Bx (((w.alloc (.cells (stL q s).toArray 28)).alloc (.cells (suL x).toArray 30)).alloc (.cells (stL nilA zeroP).toArray 28)) (w.heap.size + 1) 30 (suL x) := (Bx.new _ _ _ _ _ (by simp) rfl).alloc _
  have hR : Bx (((w.alloc (.cells (stL q s).toArray 28)).alloc (.cells (suL x).toArray 30)).alloc (.cells (stL nilA zeroP).toArray 28)) (w.heap.size + 2) 28 (stL nilA zeroP) := Bx.new _ _ _ _ _ (by simp) rfl
  obtain ⟨W, hW⟩ : ∃ W, ((w.alloc (.cells #[.slice q.m s.mem.length q.mc, .slice q.d s.data.length q.dc, .slice q.r s.ret.length q.rc, .slice q.c s.ctl.length q.cc, .slice q.w s.words.length q.wc, .slice q.s s.spots.length q.sc, .slice q.o s.out.length q.oc, .int .i64 s.ip, .int .i64 s.here, .int .i64 s.pos, .int .i64 s.tok, .int .i64 s.inp, .int .i64 s.err, .bool s.comp, .bool s.halt] 28)).alloc (.cells #[.string x.src, .slice x.iA x.iN x.iC, .int .i64 x.size, .int .i64 x.depth, .int .i64 x.room] 30)).alloc (.cells #[.slice none 0 0, .slice none 0 0, .slice none 0 0, .slice none 0 0, .slice none 0 0, .slice none 0 0, .slice none 0 0, .int .i64 0, .int .i64 0, .int .i64 0, .int .i64 0, .int .i64 0, .int .i64 0, .bool false, .bool false] 28) = W := ⟨_, rfl⟩
  have HB0 : Hid (Below w.heap.size w W) := Lib.hid (by rw [← hW]; exact hB0)
  have HA0 : Hid (Bx W w.heap.size 28 (stL q s)) := Lib.hid (by rw [← hW]; exact hS)
  have HX0 : Hid (Bx W (w.heap.size + 1) 30 (suL x)) := Lib.hid (by rw [← hW]; exact hX)
  have HR0 : Hid (Bx W (w.heap.size + 2) 28 (stL nilA zeroP)) := Lib.hid (by rw [← hW]; exact hR)
  have HTW := Lib.hid ht
  have HT0 : Hid (Tab W) := Lib.hid (ht.below HB0.out)
  have HP : Hid (RdP w q s) := Lib.hid hp
  have HWW := Lib.hid hW
  have HNM := Lib.hid hnm
  clear hp hB0 hS hX hR hW ht hnm
  rw [stV_eq q s, suV_eq x]
  go_enter Tryz.func10, Tryz.ntmps10
  go_wp2_with fail
  rw [HWW.out]
  refine (mk_any W).mono ?_
  rintro r w1 ⟨rfl, hmp, hb1⟩
  have HMP1 := Lib.hid hmp
  have HB1 := Lib.hid (below_two HB0.out hb1)
  have HA1 := Lib.hid (HA0.out.below hb1)
  have HX1 := Lib.hid (HX0.out.below hb1)
  have HR1 := Lib.hid (HR0.out.below hb1)
  have HT1 := Lib.hid (HT0.out.below hb1)
  clear hmp hb1
  go_wp2_with fail
  refine (Name_any k nm w1 HNM.out HT1.out).mono ?_
  rintro r w2 ⟨rfl, hb2⟩
  have HMP2 := Lib.hid (HMP1.out.below hb2)
  have HB2 := Lib.hid (below_two HB1.out hb2)
  have HA2 := Lib.hid (HA1.out.below hb2)
  have HX2 := Lib.hid (HX1.out.below hb2)
  have HR2 := Lib.hid (HR1.out.below hb2)
  have HT2 := Lib.hid (HT1.out.below hb2)
  have hget := run_get (P := Tryz.prog) (v := .func (.func F) #[] #[]) (i := i) setMapD Tryz.underlying9 HMP2.out (s := nm) HFD.out
  clear hb2
  go_wp2_with (refine wp_lookup rfl 57 _ _ rfl _ _ _ rfl rfl hget ?_)
  clear hget
  obtain ⟨⟨z0, z1, z2, z3, z4, z5, z6, z7, z8, z9, z10, z11, z12, z13, z14⟩, f0⟩ := And.intro HA2.out.st15 trivial
  have y0 : w2.cell? ⟨w.heap.size + 1, 0, none⟩ = some (.string x.src) := HX2.out.cell 0
  have y1 : w2.cell? ⟨w.heap.size + 1, 1, none⟩ = some (.slice x.iA x.iN x.iC) := HX2.out.cell 1
  have y2 : w2.cell? ⟨w.heap.size + 1, 2, none⟩ = some (.int .i64 x.size) := HX2.out.cell 2
  have y3 : w2.cell? ⟨w.heap.size + 1, 3, none⟩ = some (.int .i64 x.depth) := HX2.out.cell 3
  have y4 : w2.cell? ⟨w.heap.size + 1, 4, none⟩ = some (.int .i64 x.room) := HX2.out.cell 4
  have HBW := Lib.hid (below_lit w2 (.cells (wdL q s x 0).toArray 62))
  have HLS : Hid (Lies q s (fun b => b < w.heap.size)) := Lib.hid HP.out.lies
  have hsW : w.heap.size + 2 < w2.heap.size := HR2.out.lt
  have HW0 : Hid (Dk (w2.alloc (.cells (wdL q s x 0).toArray 62)) w2.heap.size q s x 0) := Lib.hid ⟨Bx.new w2 _ _ _ _ rfl rfl, (HP.out.below HB2.out).below HBW.out, HLS.out.mono (fun b hb => by omega)⟩
  have HTG : Hid (TabG w2.heap.size (w2.alloc (.cells (wdL q s x 0).toArray 62))) := Lib.hid ⟨w, HTW.out, below_two HB2.out HBW.out, by omega⟩
  have HB3 := Lib.hid (below_two HB2.out HBW.out)
  have HR3 := Lib.hid (HR2.out.below HBW.out)
  have hs3 : w2.heap.size < (w2.alloc (.cells (wdL q s x 0).toArray 62)).heap.size := by simp
  go_wp2_with fail
  rw [fun_nilD]
  go_simp
  go_wp2_with fail
  rw [fun_nilD]
  go_simp
  go_wp2_with fail
  refine (HCL.out (w2.alloc (.cells (wdL q s x 0).toArray 62)) w2.heap.size HTG.out HW0.out).mono ?_
  rintro r w4 ⟨rfl, q4, ht4⟩
  have HW4 := Lib.hid ht4.wk
  have HB4 : Hid (Below w.heap.size w w4) := Lib.hid (below_grown HB3.out (by omega) ht4.gr (by omega))
  have HR4 := Lib.hid (HR3.out.grown ht4.gr (by omega))
  have HL4 : Hid (∀ S, Lies q s S → Lies q4 s' (fun b => S b ∨ w2.heap.size ≤ b)) := Lib.hid (fun S hS => (ht4.lies S hS).mono (fun b hb => hb.imp id (fun h => by simp at h; omega)))
  have HL5 : Hid (Lies q4 s' (fun b => b ≠ w.heap.size + 2)) := Lib.hid ((HL4.out _ HLS.out).mono (fun b hb => by omega))
  have hs4 : w.heap.size ≤ w4.heap.size := HB4.out.size
  clear ht4 z0 z1 z2 z3 z4 z5 z6 z7 z8 z9 z10 z11 z12 z13 z14 y0 y1 y2 y3 y4
  go_wp2_with fail
  by_cases he : e' = 0
  · subst he
    refine (Ok_any w2.heap.size 0 true _ rfl HW4.out.er).mono ?_
    rintro r w5 ⟨rfl, rfl⟩
    go_wp2_with (first
      | (refine wp_loadD rfl _ rfl w2.heap.size rfl q4 s' x 0 HW4.out ?_)
      | (refine wp_storeS rfl 28 _ _ rfl (w.heap.size + 2) (stL q4 s') rfl rfl 28 _ HR4.out 15 infoSt rfl rfl rfl ?_))
    intro w6 hg6 hw6
    have HR6 := Lib.hid hg6
    have HB6 : Hid (Below w.heap.size w w6) := Lib.hid (below_grown HB4.out hs4 hw6 (by omega))
    have HRD := Lib.hid (HW4.out.rd.grown HL5.out hw6 (fun h => h rfl))
    clear hg6 hw6
    go_wp2
    refine bodyPost_ret (results_S3 rfl _ _ (w.heap.size + 2) 28 (stL q4 s') _ rfl HR6.out Tryz.underlying28 rfl 15 infoSt rfl _ _ rfl rfl) rfl ?_
    exact ⟨q4, rfl, ⟨HRD.out, fun S hS => (HL4.out S hS).mono (fun b hb => hb.imp id (fun h => by omega))⟩, HB6.out⟩
  · refine (Ok_any w2.heap.size e' false _ (by simpa using he) HW4.out.er).mono ?_
    rintro r w5 ⟨rfl, rfl⟩
    have c20 := HW4.out.er
    obtain ⟨⟨y0, y1, y2, y3, y4, y5, y6, y7, y8, y9, y10, y11, y12, y13, y14⟩, f0, f1, f2, f3, f4, f5, f6, f7, f8, f9, f10, f11, f12, f13, f14⟩ := HR4.out.z15
    go_wp2_with fail
    go_region
    all_goals
      have HRW := Lib.hid (show Bx _ (w.heap.size + 2) 28 (stL nilA zeroP) from (((((((((((((((HR4.out.setc 0 (.slice none 0 0)).setc 1 (.slice none 0 0)).setc 2 (.slice none 0 0)).setc 3 (.slice none 0 0)).setc 4 (.slice none 0 0)).setc 5 (.slice none 0 0)).setc 6 (.slice none 0 0)).setc 7 (.int .i64 0)).setc 8 (.int .i64 0)).setc 9 (.int .i64 0)).setc 10 (.int .i64 0)).setc 11 (.int .i64 0)).setc 12 (.int .i64 0)).setc 13 (.bool false)).setc 14 (.bool false)))
      have HBW2 : Hid (Below (w.heap.size + 2) w4 (((((((((((((((w4.setCell ⟨w.heap.size + 2, 0, none⟩ (.slice none 0 0)).setCell ⟨w.heap.size + 2, 1, none⟩ (.slice none 0 0)).setCell ⟨w.heap.size + 2, 2, none⟩ (.slice none 0 0)).setCell ⟨w.heap.size + 2, 3, none⟩ (.slice none 0 0)).setCell ⟨w.heap.size + 2, 4, none⟩ (.slice none 0 0)).setCell ⟨w.heap.size + 2, 5, none⟩ (.slice none 0 0)).setCell ⟨w.heap.size + 2, 6, none⟩ (.slice none 0 0)).setCell ⟨w.heap.size + 2, 7, none⟩ (.int .i64 0)).setCell ⟨w.heap.size + 2, 8, none⟩ (.int .i64 0)).setCell ⟨w.heap.size + 2, 9, none⟩ (.int .i64 0)).setCell ⟨w.heap.size + 2, 10, none⟩ (.int .i64 0)).setCell ⟨w.heap.size + 2, 11, none⟩ (.int .i64 0)).setCell ⟨w.heap.size + 2, 12, none⟩ (.int .i64 0)).setCell ⟨w.heap.size + 2, 13, none⟩ (.bool false)).setCell ⟨w.heap.size + 2, 14, none⟩ (.bool false))) := Lib.hid (by (iterate 15 refine below_set ?_); exact Below.refl _ _)
      generalize (((((((((((((((w4.setCell ⟨w.heap.size + 2, 0, none⟩ (.slice none 0 0)).setCell ⟨w.heap.size + 2, 1, none⟩ (.slice none 0 0)).setCell ⟨w.heap.size + 2, 2, none⟩ (.slice none 0 0)).setCell ⟨w.heap.size + 2, 3, none⟩ (.slice none 0 0)).setCell ⟨w.heap.size + 2, 4, none⟩ (.slice none 0 0)).setCell ⟨w.heap.size + 2, 5, none⟩ (.slice none 0 0)).setCell ⟨w.heap.size + 2, 6, none⟩ (.slice none 0 0)).setCell ⟨w.heap.size + 2, 7, none⟩ (.int .i64 0)).setCell ⟨w.heap.size + 2, 8, none⟩ (.int .i64 0)).setCell ⟨w.heap.size + 2, 9, none⟩ (.int .i64 0)).setCell ⟨w.heap.size + 2, 10, none⟩ (.int .i64 0)).setCell ⟨w.heap.size + 2, 11, none⟩ (.int .i64 0)).setCell ⟨w.heap.size + 2, 12, none⟩ (.int .i64 0)).setCell ⟨w.heap.size + 2, 13, none⟩ (.bool false)).setCell ⟨w.heap.size + 2, 14, none⟩ (.bool false)) = w6 at HRW HBW2 ⊢
      clear y0 y1 y2 y3 y4 y5 y6 y7 y8 y9 y10 y11 y12 y13 y14 f0 f1 f2 f3 f4 f5 f6 f7 f8 f9 f10 f11 f12 f13 f14 c20
      have HB6 := Lib.hid ((HB4.out.trans (HBW2.out.mono (by omega))).drew)
      have HRE : Hid (resF (s', e') = (zeroP, e', true)) := Lib.hid (by unfold resF; rw [if_neg he])
      clear HBW2
      go_wp2
      refine bodyPost_ret (results_S3 rfl _ _ (w.heap.size + 2) 28 (stL nilA zeroP) _ rfl (show Bx w6.drew _ _ _ from HRW.out) Tryz.underlying28 rfl 15 infoSt rfl _ _ rfl rfl) rfl ?_
      rw [HRE.out]
      exact ⟨nilA, rfl, Res.zero _ _ _ _, HB6.out⟩

end Go.Proofs.YtappfhjknihboaaGreatDoor


/- defs.Do, by its two tables. -/
namespace Go.Proofs.YtappfhjknihboaaGreatDoor
open Go.RowKit

set_option maxRecDepth 100000 in
set_option maxHeartbeats 8000000 in
theorem DoR_core (k : Int) (nm : ByteArray) (i : Nat) (F : FuncId) (q : Ad) (s : Ps) (x : Sx) (s' : Ps) (e' : Int) (w : World) (hp : RdP w q s) (ht : Tab w) (hnm : nameR k = nm) (hfm : Instr.findNow .string (.string nm) mkE 0 = some none) (hfind : Instr.findNow .string (.string nm) rdE 0 = some (some (i, .func (.func F) #[] #[]))) (hent : ∀ (args : Array Value) (w : World), (callFunc F args).run Tryz.prog w = .ok (.enter F args) w)
    (hcl : ∀ (W : World) (g : Nat), TabG g W → Dk W g q s x 0 → Calls Tryz.prog F #[.pointer (some ⟨g, 0, none⟩)] W fun r w' => r = .returned (.tuple #[]) ∧ ∃ q', Td g W q s w' q' s' x e') :
    Calls Tryz.prog 10 #[stV q s, suV x, .int .i64 k] w fun r w' => ∃ q', r = .returned (.tuple #[stV q' (resF (s', e')).1, .int .i64 (resF (s', e')).2.1, .bool true]) ∧ Res w.heap.size q s w' q' (resF (s', e')).1 ∧ Below w.heap.size w w' := by
  have HFD := Lib.hid hfind
  have HFM := Lib.hid hfm
  have HCL := Lib.hid hcl
  clear hfind hfm hcl
  have hB0 := below_two (below_two (below_lit w (.cells (stL q s).toArray 28)) (below_lit _ (.cells (suL x).toArray 30))) (below_lit _ (.cells (stL nilA zeroP).toArray 28))
  have hS : Bx (((w.alloc (.cells (stL q s).toArray 28)).alloc (.cells (suL x).toArray 30)).alloc (.cells (stL nilA zeroP).toArray 28)) w.heap.size 28 (stL q s) := ((Bx.new w _ _ _ _ rfl rfl).alloc _).alloc _
  have hX : Bx (((w.alloc (.cells (stL q s).toArray 28)).alloc (.cells (suL x).toArray 30)).alloc (.cells (stL nilA zeroP).toArray 28)) (w.heap.size + 1) 30 (suL x) := (Bx.new _ _ _ _ _ (by simp) rfl).alloc _
  have hR : Bx (((w.alloc (.cells (stL q s).toArray 28)).alloc (.cells (suL x).toArray 30)).alloc (.cells (stL nilA zeroP).toArray 28)) (w.heap.size + 2) 28 (stL nilA zeroP) := Bx.new _ _ _ _ _ (by simp) rfl
  obtain ⟨W, hW⟩ : ∃ W, ((w.alloc (.cells #[.slice q.m s.mem.length q.mc, .slice q.d s.data.length q.dc, .slice q.r s.ret.length q.rc, .slice q.c s.ctl.length q.cc, .slice q.w s.words.length q.wc, .slice q.s s.spots.length q.sc, .slice q.o s.out.length q.oc, .int .i64 s.ip, .int .i64 s.here, .int .i64 s.pos, .int .i64 s.tok, .int .i64 s.inp, .int .i64 s.err, .bool s.comp, .bool s.halt] 28)).alloc (.cells #[.string x.src, .slice x.iA x.iN x.iC, .int .i64 x.size, .int .i64 x.depth, .int .i64 x.room] 30)).alloc (.cells #[.slice none 0 0, .slice none 0 0, .slice none 0 0, .slice none 0 0, .slice none 0 0, .slice none 0 0, .slice none 0 0, .int .i64 0, .int .i64 0, .int .i64 0, .int .i64 0, .int .i64 0, .int .i64 0, .bool false, .bool false] 28) = W := ⟨_, rfl⟩
  have HB0 : Hid (Below w.heap.size w W) := Lib.hid (by rw [← hW]; exact hB0)
  have HA0 : Hid (Bx W w.heap.size 28 (stL q s)) := Lib.hid (by rw [← hW]; exact hS)
  have HX0 : Hid (Bx W (w.heap.size + 1) 30 (suL x)) := Lib.hid (by rw [← hW]; exact hX)
  have HR0 : Hid (Bx W (w.heap.size + 2) 28 (stL nilA zeroP)) := Lib.hid (by rw [← hW]; exact hR)
  have HTW := Lib.hid ht
  have HT0 : Hid (Tab W) := Lib.hid (ht.below HB0.out)
  have HP : Hid (RdP w q s) := Lib.hid hp
  have HWW := Lib.hid hW
  have HNM := Lib.hid hnm
  clear hp hB0 hS hX hR hW ht hnm
  rw [stV_eq q s, suV_eq x]
  go_enter Tryz.func10, Tryz.ntmps10
  go_wp2_with fail
  rw [HWW.out]
  refine (mk_any W).mono ?_
  rintro r w1 ⟨rfl, hmp, hb1⟩
  have HMP1 := Lib.hid hmp
  have HB1 := Lib.hid (below_two HB0.out hb1)
  have HA1 := Lib.hid (HA0.out.below hb1)
  have HX1 := Lib.hid (HX0.out.below hb1)
  have HR1 := Lib.hid (HR0.out.below hb1)
  have HT1 := Lib.hid (HT0.out.below hb1)
  clear hmp hb1
  go_wp2_with fail
  refine (Name_any k nm w1 HNM.out HT1.out).mono ?_
  rintro r w2 ⟨rfl, hb2⟩
  have HMP2 := Lib.hid (HMP1.out.below hb2)
  have HB2 := Lib.hid (below_two HB1.out hb2)
  have HA2 := Lib.hid (HA1.out.below hb2)
  have HX2 := Lib.hid (HX1.out.below hb2)
  have HR2 := Lib.hid (HR1.out.below hb2)
  have HT2 := Lib.hid (HT1.out.below hb2)
  have hget := run_get_none (P := Tryz.prog) setMapD Tryz.underlying9 (zeroD w2) HMP2.out (s := nm) HFM.out
  clear hb2
  go_wp2_with (refine wp_lookup rfl 57 _ _ rfl _ _ _ rfl rfl hget ?_)
  clear hget
  go_wp2_with fail
  rw [nil_nilD]
  go_simp
  go_wp2_with fail
  clear HB0 HA0 HX0 HR0 HT0 HB1 HA1 HX1 HR1 HT1 HMP1 HMP2
  have HB0 := HB2
  have HA0 := HA2
  have HX0 := HX2
  have HR0 := HR2
  have HT0 := HT2
  clear HB2 HA2 HX2 HR2 HT2
  refine (rd_any w2).mono ?_
  rintro r w5 ⟨rfl, hmp, hb1⟩
  have HMP1 := Lib.hid hmp
  have HB1 := Lib.hid (below_two HB0.out hb1)
  have HA1 := Lib.hid (HA0.out.below hb1)
  have HX1 := Lib.hid (HX0.out.below hb1)
  have HR1 := Lib.hid (HR0.out.below hb1)
  have HT1 := Lib.hid (HT0.out.below hb1)
  clear hmp hb1
  go_wp2_with fail
  refine (Name_any k nm w5 HNM.out HT1.out).mono ?_
  rintro r w6 ⟨rfl, hb2⟩
  obtain ⟨w3, hw3⟩ : ∃ V, w6 = V := ⟨_, rfl⟩
  subst hw3
  have HMP2 := Lib.hid (HMP1.out.below hb2)
  have HB2 := Lib.hid (below_two HB1.out hb2)
  have HA2 := Lib.hid (HA1.out.below hb2)
  have HX2 := Lib.hid (HX1.out.below hb2)
  have HR2 := Lib.hid (HR1.out.below hb2)
  have HT2 := Lib.hid (HT1.out.below hb2)
  have hget := run_get (P := Tryz.prog) (v := .func (.func F) #[] #[]) (i := i) setMapD Tryz.underlying9 HMP2.out (s := nm) HFD.out
  clear hb2
  go_wp2_with (refine wp_lookup rfl 57 _ _ rfl _ _ _ rfl rfl hget ?_)
  clear hget
  obtain ⟨⟨z0, z1, z2, z3, z4, z5, z6, z7, z8, z9, z10, z11, z12, z13, z14⟩, f0⟩ := And.intro HA2.out.st15 trivial
  have y0 : w6.cell? ⟨w.heap.size + 1, 0, none⟩ = some (.string x.src) := HX2.out.cell 0
  have y1 : w6.cell? ⟨w.heap.size + 1, 1, none⟩ = some (.slice x.iA x.iN x.iC) := HX2.out.cell 1
  have y2 : w6.cell? ⟨w.heap.size + 1, 2, none⟩ = some (.int .i64 x.size) := HX2.out.cell 2
  have y3 : w6.cell? ⟨w.heap.size + 1, 3, none⟩ = some (.int .i64 x.depth) := HX2.out.cell 3
  have y4 : w6.cell? ⟨w.heap.size + 1, 4, none⟩ = some (.int .i64 x.room) := HX2.out.cell 4
  have HBW := Lib.hid (below_lit w6 (.cells (wdL q s x 0).toArray 62))
  have HLS : Hid (Lies q s (fun b => b < w.heap.size)) := Lib.hid HP.out.lies
  have hsW : w.heap.size + 2 < w6.heap.size := HR2.out.lt
  have HW0 : Hid (Dk (w6.alloc (.cells (wdL q s x 0).toArray 62)) w6.heap.size q s x 0) := Lib.hid ⟨Bx.new w6 _ _ _ _ rfl rfl, (HP.out.below HB2.out).below HBW.out, HLS.out.mono (fun b hb => by omega)⟩
  have HTG : Hid (TabG w6.heap.size (w6.alloc (.cells (wdL q s x 0).toArray 62))) := Lib.hid ⟨w, HTW.out, below_two HB2.out HBW.out, by omega⟩
  have HB3 := Lib.hid (below_two HB2.out HBW.out)
  have HR3 := Lib.hid (HR2.out.below HBW.out)
  have hs3 : w6.heap.size < (w6.alloc (.cells (wdL q s x 0).toArray 62)).heap.size := by simp
  go_wp2_with fail
  rw [fun_nilD]
  go_simp
  go_wp2_with fail
  refine (HCL.out (w6.alloc (.cells (wdL q s x 0).toArray 62)) w6.heap.size HTG.out HW0.out).mono ?_
  rintro r w4 ⟨rfl, q4, ht4⟩
  have HW4 := Lib.hid ht4.wk
  have HB4 : Hid (Below w.heap.size w w4) := Lib.hid (below_grown HB3.out (by omega) ht4.gr (by omega))
  have HR4 := Lib.hid (HR3.out.grown ht4.gr (by omega))
  have HL4 : Hid (∀ S, Lies q s S → Lies q4 s' (fun b => S b ∨ w6.heap.size ≤ b)) := Lib.hid (fun S hS => (ht4.lies S hS).mono (fun b hb => hb.imp id (fun h => by simp at h; omega)))
  have HL5 : Hid (Lies q4 s' (fun b => b ≠ w.heap.size + 2)) := Lib.hid ((HL4.out _ HLS.out).mono (fun b hb => by omega))
  have hs4 : w.heap.size ≤ w4.heap.size := HB4.out.size
  clear ht4 z0 z1 z2 z3 z4 z5 z6 z7 z8 z9 z10 z11 z12 z13 z14 y0 y1 y2 y3 y4
  go_wp2_with fail
  by_cases he : e' = 0
  · subst he
    refine (Ok_any w6.heap.size 0 true _ rfl HW4.out.er).mono ?_
    rintro r w5 ⟨rfl, rfl⟩
    go_wp2_with (first
      | (refine wp_loadD rfl _ rfl w6.heap.size rfl q4 s' x 0 HW4.out ?_)
      | (refine wp_storeS rfl 28 _ _ rfl (w.heap.size + 2) (stL q4 s') rfl rfl 28 _ HR4.out 15 infoSt rfl rfl rfl ?_))
    intro w6 hg6 hw6
    have HR6 := Lib.hid hg6
    have HB6 : Hid (Below w.heap.size w w6) := Lib.hid (below_grown HB4.out hs4 hw6 (by omega))
    have HRD := Lib.hid (HW4.out.rd.grown HL5.out hw6 (fun h => h rfl))
    clear hg6 hw6
    go_wp2
    refine bodyPost_ret (results_S3 rfl _ _ (w.heap.size + 2) 28 (stL q4 s') _ rfl HR6.out Tryz.underlying28 rfl 15 infoSt rfl _ _ rfl rfl) rfl ?_
    exact ⟨q4, rfl, ⟨HRD.out, fun S hS => (HL4.out S hS).mono (fun b hb => hb.imp id (fun h => by omega))⟩, HB6.out⟩
  · refine (Ok_any w6.heap.size e' false _ (by simpa using he) HW4.out.er).mono ?_
    rintro r w5 ⟨rfl, rfl⟩
    have c20 := HW4.out.er
    obtain ⟨⟨y0, y1, y2, y3, y4, y5, y6, y7, y8, y9, y10, y11, y12, y13, y14⟩, f0, f1, f2, f3, f4, f5, f6, f7, f8, f9, f10, f11, f12, f13, f14⟩ := HR4.out.z15
    go_wp2_with fail
    go_region
    all_goals
      have HRW := Lib.hid (show Bx _ (w.heap.size + 2) 28 (stL nilA zeroP) from (((((((((((((((HR4.out.setc 0 (.slice none 0 0)).setc 1 (.slice none 0 0)).setc 2 (.slice none 0 0)).setc 3 (.slice none 0 0)).setc 4 (.slice none 0 0)).setc 5 (.slice none 0 0)).setc 6 (.slice none 0 0)).setc 7 (.int .i64 0)).setc 8 (.int .i64 0)).setc 9 (.int .i64 0)).setc 10 (.int .i64 0)).setc 11 (.int .i64 0)).setc 12 (.int .i64 0)).setc 13 (.bool false)).setc 14 (.bool false)))
      have HBW2 : Hid (Below (w.heap.size + 2) w4 (((((((((((((((w4.setCell ⟨w.heap.size + 2, 0, none⟩ (.slice none 0 0)).setCell ⟨w.heap.size + 2, 1, none⟩ (.slice none 0 0)).setCell ⟨w.heap.size + 2, 2, none⟩ (.slice none 0 0)).setCell ⟨w.heap.size + 2, 3, none⟩ (.slice none 0 0)).setCell ⟨w.heap.size + 2, 4, none⟩ (.slice none 0 0)).setCell ⟨w.heap.size + 2, 5, none⟩ (.slice none 0 0)).setCell ⟨w.heap.size + 2, 6, none⟩ (.slice none 0 0)).setCell ⟨w.heap.size + 2, 7, none⟩ (.int .i64 0)).setCell ⟨w.heap.size + 2, 8, none⟩ (.int .i64 0)).setCell ⟨w.heap.size + 2, 9, none⟩ (.int .i64 0)).setCell ⟨w.heap.size + 2, 10, none⟩ (.int .i64 0)).setCell ⟨w.heap.size + 2, 11, none⟩ (.int .i64 0)).setCell ⟨w.heap.size + 2, 12, none⟩ (.int .i64 0)).setCell ⟨w.heap.size + 2, 13, none⟩ (.bool false)).setCell ⟨w.heap.size + 2, 14, none⟩ (.bool false))) := Lib.hid (by (iterate 15 refine below_set ?_); exact Below.refl _ _)
      generalize (((((((((((((((w4.setCell ⟨w.heap.size + 2, 0, none⟩ (.slice none 0 0)).setCell ⟨w.heap.size + 2, 1, none⟩ (.slice none 0 0)).setCell ⟨w.heap.size + 2, 2, none⟩ (.slice none 0 0)).setCell ⟨w.heap.size + 2, 3, none⟩ (.slice none 0 0)).setCell ⟨w.heap.size + 2, 4, none⟩ (.slice none 0 0)).setCell ⟨w.heap.size + 2, 5, none⟩ (.slice none 0 0)).setCell ⟨w.heap.size + 2, 6, none⟩ (.slice none 0 0)).setCell ⟨w.heap.size + 2, 7, none⟩ (.int .i64 0)).setCell ⟨w.heap.size + 2, 8, none⟩ (.int .i64 0)).setCell ⟨w.heap.size + 2, 9, none⟩ (.int .i64 0)).setCell ⟨w.heap.size + 2, 10, none⟩ (.int .i64 0)).setCell ⟨w.heap.size + 2, 11, none⟩ (.int .i64 0)).setCell ⟨w.heap.size + 2, 12, none⟩ (.int .i64 0)).setCell ⟨w.heap.size + 2, 13, none⟩ (.bool false)).setCell ⟨w.heap.size + 2, 14, none⟩ (.bool false)) = w6 at HRW HBW2 ⊢
      clear y0 y1 y2 y3 y4 y5 y6 y7 y8 y9 y10 y11 y12 y13 y14 f0 f1 f2 f3 f4 f5 f6 f7 f8 f9 f10 f11 f12 f13 f14 c20
      have HB6 := Lib.hid ((HB4.out.trans (HBW2.out.mono (by omega))).drew)
      have HRE : Hid (resF (s', e') = (zeroP, e', true)) := Lib.hid (by unfold resF; rw [if_neg he])
      clear HBW2
      go_wp2
      refine bodyPost_ret (results_S3 rfl _ _ (w.heap.size + 2) 28 (stL nilA zeroP) _ rfl (show Bx w6.drew _ _ _ from HRW.out) Tryz.underlying28 rfl 15 infoSt rfl _ _ rfl rfl) rfl ?_
      rw [HRE.out]
      exact ⟨nilA, rfl, Res.zero _ _ _ _, HB6.out⟩

set_option maxRecDepth 100000 in
set_option maxHeartbeats 8000000 in
theorem DoN_core (k : Int) (nm : ByteArray) (q : Ad) (s : Ps) (x : Sx) (w : World) (hp : RdP w q s) (ht : Tab w) (hnm : nameR k = nm) (hfm : Instr.findNow .string (.string nm) mkE 0 = some none) (hfind : Instr.findNow .string (.string nm) rdE 0 = some none) :
    Calls Tryz.prog 10 #[stV q s, suV x, .int .i64 k] w fun r w' => r = .returned (.tuple #[stV nilA zeroP, .int .i64 0, .bool false]) ∧ Below w.heap.size w w' := by
  have HFD := Lib.hid hfind
  have HFM := Lib.hid hfm
  clear hfind hfm
  have hB0 := below_two (below_two (below_lit w (.cells (stL q s).toArray 28)) (below_lit _ (.cells (suL x).toArray 30))) (below_lit _ (.cells (stL nilA zeroP).toArray 28))
  have hS : Bx (((w.alloc (.cells (stL q s).toArray 28)).alloc (.cells (suL x).toArray 30)).alloc (.cells (stL nilA zeroP).toArray 28)) w.heap.size 28 (stL q s) := ((Bx.new w _ _ _ _ rfl rfl).alloc _).alloc _
  have hX : Bx (((w.alloc (.cells (stL q s).toArray 28)).alloc (.cells (suL x).toArray 30)).alloc (.cells (stL nilA zeroP).toArray 28)) (w.heap.size + 1) 30 (suL x) := (Bx.new _ _ _ _ _ (by simp) rfl).alloc _
  have hR : Bx (((w.alloc (.cells (stL q s).toArray 28)).alloc (.cells (suL x).toArray 30)).alloc (.cells (stL nilA zeroP).toArray 28)) (w.heap.size + 2) 28 (stL nilA zeroP) := Bx.new _ _ _ _ _ (by simp) rfl
  obtain ⟨W, hW⟩ : ∃ W, ((w.alloc (.cells #[.slice q.m s.mem.length q.mc, .slice q.d s.data.length q.dc, .slice q.r s.ret.length q.rc, .slice q.c s.ctl.length q.cc, .slice q.w s.words.length q.wc, .slice q.s s.spots.length q.sc, .slice q.o s.out.length q.oc, .int .i64 s.ip, .int .i64 s.here, .int .i64 s.pos, .int .i64 s.tok, .int .i64 s.inp, .int .i64 s.err, .bool s.comp, .bool s.halt] 28)).alloc (.cells #[.string x.src, .slice x.iA x.iN x.iC, .int .i64 x.size, .int .i64 x.depth, .int .i64 x.room] 30)).alloc (.cells #[.slice none 0 0, .slice none 0 0, .slice none 0 0, .slice none 0 0, .slice none 0 0, .slice none 0 0, .slice none 0 0, .int .i64 0, .int .i64 0, .int .i64 0, .int .i64 0, .int .i64 0, .int .i64 0, .bool false, .bool false] 28) = W := ⟨_, rfl⟩
  have HB0 : Hid (Below w.heap.size w W) := Lib.hid (by rw [← hW]; exact hB0)
  have HA0 : Hid (Bx W w.heap.size 28 (stL q s)) := Lib.hid (by rw [← hW]; exact hS)
  have HX0 : Hid (Bx W (w.heap.size + 1) 30 (suL x)) := Lib.hid (by rw [← hW]; exact hX)
  have HR0 : Hid (Bx W (w.heap.size + 2) 28 (stL nilA zeroP)) := Lib.hid (by rw [← hW]; exact hR)
  have HTW := Lib.hid ht
  have HT0 : Hid (Tab W) := Lib.hid (ht.below HB0.out)
  have HP : Hid (RdP w q s) := Lib.hid hp
  have HWW := Lib.hid hW
  have HNM := Lib.hid hnm
  clear hp hB0 hS hX hR hW ht hnm
  rw [stV_eq q s, suV_eq x]
  go_enter Tryz.func10, Tryz.ntmps10
  go_wp2_with fail
  rw [HWW.out]
  refine (mk_any W).mono ?_
  rintro r w1 ⟨rfl, hmp, hb1⟩
  have HMP1 := Lib.hid hmp
  have HB1 := Lib.hid (below_two HB0.out hb1)
  have HA1 := Lib.hid (HA0.out.below hb1)
  have HX1 := Lib.hid (HX0.out.below hb1)
  have HR1 := Lib.hid (HR0.out.below hb1)
  have HT1 := Lib.hid (HT0.out.below hb1)
  clear hmp hb1
  go_wp2_with fail
  refine (Name_any k nm w1 HNM.out HT1.out).mono ?_
  rintro r w2 ⟨rfl, hb2⟩
  have HMP2 := Lib.hid (HMP1.out.below hb2)
  have HB2 := Lib.hid (below_two HB1.out hb2)
  have HA2 := Lib.hid (HA1.out.below hb2)
  have HX2 := Lib.hid (HX1.out.below hb2)
  have HR2 := Lib.hid (HR1.out.below hb2)
  have HT2 := Lib.hid (HT1.out.below hb2)
  have hget := run_get_none (P := Tryz.prog) setMapD Tryz.underlying9 (zeroD w2) HMP2.out (s := nm) HFM.out
  clear hb2
  go_wp2_with (refine wp_lookup rfl 57 _ _ rfl _ _ _ rfl rfl hget ?_)
  clear hget
  go_wp2_with fail
  rw [nil_nilD]
  go_simp
  go_wp2_with fail
  clear HB0 HA0 HX0 HR0 HT0 HB1 HA1 HX1 HR1 HT1 HMP1 HMP2
  have HB0 := HB2
  have HA0 := HA2
  have HX0 := HX2
  have HR0 := HR2
  have HT0 := HT2
  clear HB2 HA2 HX2 HR2 HT2
  refine (rd_any w2).mono ?_
  rintro r w5 ⟨rfl, hmp, hb1⟩
  have HMP1 := Lib.hid hmp
  have HB1 := Lib.hid (below_two HB0.out hb1)
  have HA1 := Lib.hid (HA0.out.below hb1)
  have HX1 := Lib.hid (HX0.out.below hb1)
  have HR1 := Lib.hid (HR0.out.below hb1)
  have HT1 := Lib.hid (HT0.out.below hb1)
  clear hmp hb1
  go_wp2_with fail
  refine (Name_any k nm w5 HNM.out HT1.out).mono ?_
  rintro r w6 ⟨rfl, hb2⟩
  obtain ⟨w3, hw3⟩ : ∃ V, w6 = V := ⟨_, rfl⟩
  subst hw3
  have HMP2 := Lib.hid (HMP1.out.below hb2)
  have HB2 := Lib.hid (below_two HB1.out hb2)
  have HA2 := Lib.hid (HA1.out.below hb2)
  have HX2 := Lib.hid (HX1.out.below hb2)
  have HR2 := Lib.hid (HR1.out.below hb2)
  have HT2 := Lib.hid (HT1.out.below hb2)
  have hget := run_get_none (P := Tryz.prog) setMapD Tryz.underlying9 (zeroD w6) HMP2.out (s := nm) HFD.out
  clear hb2
  go_wp2_with (refine wp_lookup rfl 57 _ _ rfl _ _ _ rfl rfl hget ?_)
  clear hget
  go_wp2_with fail
  rw [nil_nilD]
  go_simp
  go_wp2_with (refine wp_storeS rfl 28 _ _ rfl (w.heap.size + 2) (stL nilA zeroP) rfl rfl 28 _ HR2.out 15 infoSt rfl rfl rfl ?_)
  intro w7 hg6 hw6
  have HR6 := Lib.hid hg6
  have HB6 : Hid (Below w.heap.size w w7) := Lib.hid (below_grown HB2.out HB2.out.size hw6 (by omega))
  clear hg6 hw6
  go_wp2
  refine bodyPost_ret (results_S3 rfl _ _ (w.heap.size + 2) 28 (stL nilA zeroP) _ rfl HR6.out Tryz.underlying28 rfl 15 infoSt rfl _ _ rfl rfl) rfl ?_
  exact ⟨rfl, HB6.out⟩
end Go.Proofs.YtappfhjknihboaaGreatDoor
