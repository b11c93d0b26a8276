/-  -/
import Derived.Test.YtappfhjknihboaaGreatDoorMA
import Derived.Test.YtappfhjknihboaaGreatDoorMB
import Derived.Lib.AppendStr
import Derived.Test.YtappfhjknihboaaGreatDoorMH
import Derived.Test.YtappfhjknihboaaGreatDoorMF
import Derived.Test.YtappfhjknihboaaGreatDoorMG
import Derived.Test.YtappfhjknihboaaGreatDoorMI
import Derived.Deep.MidRow
import Derived.StillTailTactics
import Derived.Deep.RegionLaw
import Derived.BigQuiet
import Derived.Test.YtappfhjknihboaaGreatDoorMD
import Derived.Test.YtappfhjknihboaaGreatDoorRef08
import Derived.Deep.DeepCutAuto

/- append of a string's bytes to bytes that have no room left. No program in sight. -/
namespace Go.Proofs.YtappfhjknihboaaGreatDoor
open Go.RowKit

/-- A string's bytes. -/
def outS (b : ByteArray) : List Int := b.data.toList.map fun u => (u.toNat : Int)
theorem outS_len (b : ByteArray) : (outS b).length = b.size := by
  rw [outS, List.length_map, Array.length_toList]
  rfl
theorem outS_cells (b : ByteArray) : Lib.strCells b = nums .u8 (outS b) := by
  rw [Lib.strCells, outS, nums, List.map_map]
  rfl
theorem outS_isB (b : ByteArray) : isB (outS b) := by
  intro y hy
  obtain ⟨u, _, rfl⟩ := List.mem_map.1 hy
  have := u.toNat_lt
  omega
theorem wp_appS {P : Program} {ops : Array Oper} {rest : List Oper} {o : Oper} {a : Act} {Q : Exit → Act → World → Prop} {w : World} (hgd : o.guard = none) (s x : Operand) (t u e : TypeId)
    (ho : o.op = .call { callee := .builtin .append, args := #[s, x], argTypes := #[t, u] }) (ht : P.underlying t = some (.slice e)) (hu : P.underlying u = some .string)
    (hinfo : (P.info? e).map (fun i => (i.zero, i.size, i.bytes)) = some (some (.int .u8 0), 1, 1))
    (A : Option Addr) (n : Nat) (l : List Int) (hs : a.eval s = .slice A n n) (hrd : Rd w A n n 1 (nums .u8 l))
    (b : ByteArray) (hx : a.eval x = .string b) (hbytes : n + b.size ≤ 1000000)
    (h : ∀ A' c' w', Rd w' A' (n + b.size) c' 1 (nums .u8 (l ++ outS b)) → Below w.heap.size w w' → (A' = A ∧ b.size = 0 ∨ ∀ ad, A' = some ad → w.heap.size ≤ ad.block) → wpList P ops Q rest (a.put o.dst (.slice A' (n + b.size) c')) w') : wpList P ops Q (o :: rest) a w := by
  obtain ⟨i0, hi, hzz⟩ := Option.map_eq_some_iff.1 hinfo
  simp only [Prod.mk.injEq] at hzz
  obtain ⟨hz0, hz1, hz2⟩ := hzz
  have hl : l.length = n := by have := hrd.len; simpa [nums] using this
  have key : ∀ (v' : Value) (w' : World), (Builtin.append_ #[t, u] o.type #[.slice A n n, .string b]).run P w = .ok v' w' → wpList P ops Q rest (a.put o.dst v') w' → wpList P ops Q (o :: rest) a w := by
    intro v' w' hrun hk
    refine wpList_plain hgd fun K' hK' => ?_
    unfold Oper.wp
    simp [execOp, ho, resolve, invoke, builtin, hs, hx, hrun, Result.andThen]
    exact hK' _ _ hk
  by_cases hb0 : b.size = 0
  · have hrun : (Builtin.append_ #[t, u] o.type #[.slice A n n, .string b]).run P w = .ok (.slice A n n) w := by
      have hf := Lib.run_firstCells_string (P := P) w 1 b
      have hsc : Lib.strCells b = [] := List.eq_nil_of_length_eq_zero (by rw [Lib.strCells_length, hb0])
      rw [hsc] at hf
      cases A <;> simp [Builtin.append_, run_underlying ht, run_underlying hu, sizeOf, typeInfo, hi, hz1, Builtin.lenOf, hb0] <;> (rw [hb0] at hf; simp [hf, storeCells])
    have hn : outS b = [] := List.eq_nil_of_length_eq_zero (by rw [outS_len, hb0])
    refine key _ _ hrun ?_
    have := h A n w (by rw [hn, List.append_nil, hb0]; exact hrd) (Below.refl _ _) (.inl ⟨rfl, hb0⟩)
    rw [hb0] at this
    exact this
  · have hpos : 0 < b.size := Nat.pos_of_ne_zero hb0
    cases A with
    | none =>
      obtain rfl := hrd.nil rfl
      obtain rfl : l = [] := List.eq_nil_of_length_eq_zero hl
      obtain ⟨v', w', hrun, ho', hg, _⟩ := Lib.run_append_own_string (P := P) w w.heap.size t u o.type e i0 ht hu hi hz0 hz1 hz2 (.slice none 0 0) 0 [] ⟨rfl, .inl ⟨rfl, rfl⟩⟩ b (by simp only [maxLen]; omega) (by omega) (Nat.le_refl _)
      obtain ⟨A', c', rfl, hr⟩ := Rd.own ho'
      refine key _ _ hrun (h A' c' w' ?_ (below_of_grown hg) (.inr (own_block_ge ho' (by omega))))
      rw [List.nil_append, ← outS_cells]
      exact hr
    | some ad =>
      have hrun := Lib.run_append_grow_string (P := P) w t u o.type e i0 (.int .u8 0) ht hu hi hz0 ad n n (nums .u8 l) (by rw [hz1]; simpa [nums] using hl) (fun j v hj => by
        obtain ⟨ad', e1, hc⟩ := hrd.cell j v hj
        cases e1
        exact hc) b (by omega) (by omega) (by rw [hz2]; exact growslice_fits (by omega) (by omega))
      refine key _ _ hrun (h _ _ _ ?_ ?_ (.inr (fun ad e => by cases e; exact Nat.le_refl _)))
      · have hge := grownCap_ge w (n + b.size) n e
        have hcm : grownCap w (n + b.size) n e ≤ maxLen := grownCap_le_maxLen w (n + b.size) n e (by simp only [maxLen]; omega)
        have ho' : (w.drew.alloc (.cells ((nums .u8 l).toArray ++ (Lib.strCells b).toArray ++ Builtin.zeroCells (Value.int .u8 0).cells (grownCap w (n + b.size) n e - (n + b.size))) e)).ownsRow w.heap.size e 1 (.slice (some ⟨w.heap.size, 0, none⟩) (n + b.size) (grownCap w (n + b.size) n e)) (n + b.size) (nums .u8 l ++ Lib.strCells b) := by
          have hlen : (nums .u8 l ++ Lib.strCells b).length = (n + b.size) * 1 := by rw [List.length_append, Lib.strCells_length, Nat.mul_one]; simp [nums, hl]
          refine ⟨hlen, .inr ⟨w.heap.size, _, _, rfl, Nat.le_refl _, heap_alloc_new w.drew _, hge, hcm, ?_, ?_⟩⟩
          · have hz1 : (Value.int IntKind.u8 0).cells.size = 1 := rfl
            simp only [Array.size_append, List.size_toArray, size_zeroCells, hz1, Lib.strCells_length]
            simp only [nums, List.length_map, hl]
            omega
          · simp only [Array.toList_append]
            rw [← hlen]
            exact List.take_left
        have hr := own_rd ho'
        have e2 : nums .u8 (l ++ outS b) = nums .u8 l ++ Lib.strCells b := by
          rw [outS_cells]
          simp [nums]
        rw [e2]
        exact hr
      · exact below_two (Below.refl _ _).drew (below_lit _ _)
end Go.Proofs.YtappfhjknihboaaGreatDoor


/- defs.work: a state, a setup, and what is thrown, in a block of 21 cells; its first methods. -/
namespace Go.Proofs.YtappfhjknihboaaGreatDoor
open Go.RowKit

/-- A setup; its input is handed on as it is. -/
structure Sx where
  src : ByteArray
  iA : Option Addr
  iN : Nat
  iC : Nat
  size : Int
  depth : Int
  room : Int
def suL (x : Sx) : List Value := [.string x.src, .slice x.iA x.iN x.iC, .int .i64 x.size, .int .i64 x.depth, .int .i64 x.room]
def suV (x : Sx) : Value := .agg (suL x).toArray
theorem suV_eq (x : Sx) : suV x = .agg #[.string x.src, .slice x.iA x.iN x.iC, .int .i64 x.size, .int .i64 x.depth, .int .i64 x.room] := rfl
def wdL (q : Ad) (s : Ps) (x : Sx) (e : Int) : List Value := stL q s ++ (suL x ++ [.int .i64 e])
/-- Block g holds a state, a setup, and what is thrown; the state's lists lie elsewhere. -/
structure Dk (w : World) (g : Nat) (q : Ad) (s : Ps) (x : Sx) (e : Int) : Prop where
  bx : Bx w g 62 (wdL q s x e)
  rd : RdP w q s
  ls : Lies q s (fun b => b ≠ g)
section
variable {w w' : World} {g : Nat} {q : Ad} {s : Ps} {x : Sx} {e : Int}
theorem Dk.lt (h : Dk w g q s x e) : g < w.heap.size := h.bx.lt
theorem Dk.range (h : Dk w g q s x e) : w.rangeAt g 0 (stL q s) := fun j v hj => by
  have hj15 : j < 15 := by
    have := (List.getElem?_eq_some_iff.1 hj).1
    rwa [stL_len] at this
  rw [Nat.zero_add, h.bx.cell j, wdL, List.getElem?_append_left (by rw [stL_len]; exact hj15)]
  exact hj
theorem Dk.rangeX (h : Dk w g q s x e) : w.rangeAt g 15 (suL x) := fun j v hj => by
  have hj5 : j < 5 := (List.getElem?_eq_some_iff.1 hj).1
  rw [h.bx.cell (15 + j), wdL, List.getElem?_append_right (by rw [stL_len]; omega), stL_len, List.getElem?_append_left (by show _ < 5; omega), show 15 + j - 15 = j by omega]
  exact hj
theorem Dk.er (h : Dk w g q s x e) : w.cell? ⟨g, 20, none⟩ = some (.int .i64 e) := h.bx.cell 20
theorem Dk.mem (h : Dk w g q s x e) : w.cell? ⟨g, 0, none⟩ = some (.slice q.m s.mem.length q.mc) := h.bx.cell 0
theorem Dk.data (h : Dk w g q s x e) : w.cell? ⟨g, 1, none⟩ = some (.slice q.d s.data.length q.dc) := h.bx.cell 1
theorem Dk.ctl (h : Dk w g q s x e) : w.cell? ⟨g, 3, none⟩ = some (.slice q.c s.ctl.length q.cc) := h.bx.cell 3
theorem Dk.words (h : Dk w g q s x e) : w.cell? ⟨g, 4, none⟩ = some (.slice q.w s.words.length q.wc) := h.bx.cell 4
theorem Dk.here (h : Dk w g q s x e) : w.cell? ⟨g, 8, none⟩ = some (.int .i64 s.here) := h.bx.cell 8
theorem Dk.pos (h : Dk w g q s x e) : w.cell? ⟨g, 9, none⟩ = some (.int .i64 s.pos) := h.bx.cell 9
theorem Dk.comp (h : Dk w g q s x e) : w.cell? ⟨g, 13, none⟩ = some (.bool s.comp) := h.bx.cell 13
theorem Dk.src (h : Dk w g q s x e) : w.cell? ⟨g, 15, none⟩ = some (.string x.src) := h.bx.cell 15
theorem Dk.depth (h : Dk w g q s x e) : w.cell? ⟨g, 18, none⟩ = some (.int .i64 x.depth) := h.bx.cell 18
theorem Dk.below (h : Dk w g q s x e) (hb : Below w.heap.size w w') : Dk w' g q s x e := ⟨h.bx.below hb, h.rd.below hb, h.ls⟩
/-- Another block of one's own is turned. -/
theorem Dk.grown {k : Nat} (h : Dk w g q s x e) (hg : w.grownBy w' (some k)) (hk : g ≠ k) (hl : Lies q s (fun b => b ≠ k)) : Dk w' g q s x e :=
  ⟨h.bx.grown hg hk, h.rd.grown hl hg (fun h => h rfl), h.ls⟩
end
theorem grown_of_below {w w' : World} {g : Nat} (hb : Below w.heap.size w w') : w.grownBy w' (some g) := ⟨hb.os, hb.tape, hb.output, hb.size, fun k hk _ => hb.block k hk⟩
theorem wp_loadD {ops : Array Oper} {rest : List Oper} {o : Oper} {a : Act} {w : World} {Q : Exit → Act → World → Prop} (hgd : o.guard = none) (y : Operand) (ho : o.op = .load 28 y)
    (g : Nat) (hx : a.eval y = .pointer (some ⟨g, 0, none⟩)) (q : Ad) (s : Ps) (x : Sx) (e : Int) (hw : Dk w g q s x e)
    (h : wpList Tryz.prog ops Q rest (a.put o.dst (stV q s)) w) : wpList Tryz.prog ops Q (o :: rest) a w :=
  wpList_load_mid hgd 28 y ho g 0 hx (stL q s) _ hw.range Tryz.underlying28 rfl infoSt h
/-- What a method leaves. -/
structure Td (g : Nat) (w : World) (q : Ad) (s : Ps) (w' : World) (q' : Ad) (s' : Ps) (x : Sx) (e' : Int) : Prop where
  wk : Dk w' g q' s' x e'
  lies : ∀ S : Nat → Prop, Lies q s S → Lies q' s' (fun b => S b ∨ w.heap.size ≤ b)
  gr : w.grownBy w' (some g)
theorem Td.same {g : Nat} {w : World} {q : Ad} {s : Ps} {x : Sx} {e : Int} (h : Dk w g q s x e) : Td g w q s w q s x e := ⟨h, fun _ hS => hS.mono (fun _ h => .inl h), World.grownBy.refl _ _⟩
theorem Td.trans {g : Nat} {w w1 w2 : World} {q q1 q2 : Ad} {s s1 s2 : Ps} {x : Sx} {e1 e2 : Int} (h : Td g w q s w1 q1 s1 x e1) (k : Td g w1 q1 s1 w2 q2 s2 x e2) : Td g w q s w2 q2 s2 x e2 :=
  ⟨k.wk, fun S hS => (k.lies _ (h.lies S hS)).mono (fun _ hb => hb.elim (fun h => h) (fun hb => .inr (Nat.le_trans h.gr.size hb))), h.gr.trans k.gr⟩
theorem Td.of_below {g : Nat} {w w1 w2 : World} {q q2 : Ad} {s s2 : Ps} {x : Sx} {e2 : Int} (hb : Below w.heap.size w w1) (k : Td g w1 q s w2 q2 s2 x e2) : Td g w q s w2 q2 s2 x e2 :=
  ⟨k.wk, fun S hS => (k.lies S hS).mono (fun _ hb2 => hb2.imp id (fun h => Nat.le_trans hb.size h)), (grown_of_below hb).trans k.gr⟩
theorem Td.then_below {g : Nat} {w w1 w2 : World} {q q2 : Ad} {s s2 : Ps} {x : Sx} {e2 : Int} (k : Td g w q s w1 q2 s2 x e2) (hb : Below w1.heap.size w1 w2) : Td g w q s w2 q2 s2 x e2 :=
  ⟨k.wk.below hb, k.lies, k.gr.trans (grown_of_below hb)⟩

theorem Ok_any (g : Nat) (e : Int) (b : Bool) (w : World) (hb : (e == 0) = b) (hc : w.cell? ⟨g, 20, none⟩ = some (.int .i64 e)) :
    Calls Tryz.prog 25 #[.pointer (some ⟨g, 0, none⟩)] w fun r w' => r = .returned (.bool b) ∧ w = w' := by
  subst hb
  go_enter Tryz.func25, Tryz.ntmps25
  go_wp2
  go_ret
  exact ⟨rfl, rfl⟩

/-- What is thrown first stays. -/
def thr (e f : Int) : Int := if e = 0 then f else e
theorem Fail_any (g : Nat) (q : Ad) (s : Ps) (x : Sx) (e f : Int) (w : World) (h : Dk w g q s x e) :
    Calls Tryz.prog 56 #[.pointer (some ⟨g, 0, none⟩), .int .i64 f] w fun r w' => r = .returned (.tuple #[]) ∧ Td g w q s w' q s x (thr e f) := by
  have H := Lib.hid h
  clear h
  by_cases h0 : e = 0
  · subst h0
    go_enter Tryz.func56, Tryz.ntmps56
    go_wp2_with fail
    refine (Ok_any g 0 true _ rfl H.out.er).mono ?_
    rintro r w1 ⟨rfl, rfl⟩
    go_wp2_with (refine wp_storeF rfl 3 _ _ rfl g 20 _ rfl rfl rfl 62 _ H.out.bx 21 rfl (by decide) info1i ?_)
    intro w2 hg hw
    have HG : Hid (Bx w2 g 62 (wdL q s x f)) := Lib.hid hg
    have HW := Lib.hid hw
    clear hg hw
    go_wp2
    first | go_end0 | go_ret
    exact ⟨rfl, ⟨HG.out, H.out.rd.grown H.out.ls HW.out (fun h => h rfl), H.out.ls⟩, fun _ hS => hS.mono (fun _ h => .inl h), HW.out⟩
  · rw [thr, if_neg h0]
    go_enter Tryz.func56, Tryz.ntmps56
    go_wp2_with fail
    refine (Ok_any g e false _ (by simpa using h0) H.out.er).mono ?_
    rintro r w1 ⟨rfl, rfl⟩
    go_wp2
    first | go_end0 | go_ret
    exact ⟨rfl, Td.same H.out⟩
/-- keep: the other state, where nothing was thrown. -/
theorem Keep_ok (g : Nat) (q : Ad) (s : Ps) (x : Sx) (q2 : Ad) (s2 : Ps) (w : World) (h : Dk w g q s x 0) (h2 : RdP w q2 s2) (hl : Lies q2 s2 (fun b => b ≠ g)) :
    Calls Tryz.prog 53 #[.pointer (some ⟨g, 0, none⟩), stV q2 s2, .int .i64 0] w fun r w' => r = .returned (.tuple #[]) ∧ Dk w' g q2 s2 x 0 ∧ w.grownBy w' (some g) := by
  have H2 := Lib.hid h2
  have HL := Lib.hid hl
  have HLO : Hid (Lies q2 s2 (fun b => b < w.heap.size)) := Lib.hid h2.lies
  have HB := Lib.hid (below_lit w (.cells (stL q2 s2).toArray 28))
  have HN : Hid (Bx (w.alloc (.cells (stL q2 s2).toArray 28)) w.heap.size 28 (stL q2 s2)) := Lib.hid (Bx.new w _ _ _ _ rfl rfl)
  have H1 := Lib.hid (h.below HB.out)
  have hg := h.lt
  clear h h2 hl
  rw [stV_eq q2 s2]
  go_enter Tryz.func53, Tryz.ntmps53
  go_wp2_with fail
  refine (Fail_any g q s x 0 0 _ H1.out).mono ?_
  rintro r w1 ⟨rfl, ht⟩
  have HT : Hid (Td g (w.alloc (.cells (stL q2 s2).toArray 28)) q s w1 q s x 0) := Lib.hid ht
  have HN1 := Lib.hid (HN.out.grown ht.gr (by omega))
  have HB1 := Lib.hid ((grown_of_below (g := g) HB.out).trans ht.gr)
  have H21 := Lib.hid (H2.out.grown HL.out HB1.out (fun h => h rfl))
  clear ht
  go_wp2_with fail
  refine (Ok_any g 0 true _ rfl HT.out.wk.er).mono ?_
  rintro r w2 ⟨rfl, rfl⟩
  have h21 : (wdL q s x 0).length = 21 := rfl
  go_wp2_with (first
    | (refine wp_loadS rfl 28 _ rfl w.heap.size rfl 28 (stL q2 s2) _ HN1.out Tryz.underlying28 rfl 15 infoSt rfl ?_)
    | (refine wp_storeM rfl 28 _ _ rfl g 0 (stL q2 s2) rfl rfl rfl 62 (wdL q s x 0) HT.out.wk.bx 15 rfl (by rw [h21]; decide) infoSt ?_))
  intro w3 hg3 hw3
  have HG : Hid (Bx w3 g 62 (wdL q2 s2 x 0)) := Lib.hid hg3
  have HW := Lib.hid (HB1.out.trans hw3)
  clear hg3 hw3
  go_wp2
  first | go_end0 | go_ret
  exact ⟨rfl, ⟨HG.out, H2.out.grown HL.out HW.out (fun h => h rfl), HL.out⟩, HW.out⟩
/-- keep, where something is thrown, or was. -/
theorem Keep_no (g : Nat) (q : Ad) (s : Ps) (x : Sx) (e f : Int) (q2 : Ad) (s2 : Ps) (w : World) (h0 : thr e f ≠ 0) (h : Dk w g q s x e) :
    Calls Tryz.prog 53 #[.pointer (some ⟨g, 0, none⟩), stV q2 s2, .int .i64 f] w fun r w' => r = .returned (.tuple #[]) ∧ Td g w q s w' q s x (thr e f) := by
  have HB := Lib.hid (below_lit w (.cells (stL q2 s2).toArray 28))
  have H1 := Lib.hid (h.below HB.out)
  clear h
  rw [stV_eq q2 s2]
  go_enter Tryz.func53, Tryz.ntmps53
  go_wp2_with fail
  refine (Fail_any g q s x e f _ H1.out).mono ?_
  rintro r w1 ⟨rfl, ht⟩
  have HT : Hid (Td g (w.alloc (.cells (stL q2 s2).toArray 28)) q s w1 q s x (thr e f)) := Lib.hid ht
  clear ht
  go_wp2_with fail
  refine (Ok_any g (thr e f) false _ (by simpa using h0) HT.out.wk.er).mono ?_
  rintro r w2 ⟨rfl, rfl⟩
  go_wp2
  first | go_end0 | go_ret
  exact ⟨rfl, Td.of_below HB.out HT.out⟩

/-! ### In plain words -/
def emitD (y : Ps × Int) (v : List Int) : Ps × Int := if y.2 = 0 then (if emitE y.1 v = 0 then (emitS y.1 v, 0) else (y.1, emitE y.1 v)) else y
def tokD (x : Sx) (y : Ps × Int) : Ps × Int := ({ y.1 with pos := tokB x.src y.1.pos }, y.2)
def tokS (x : Sx) (s : Ps) : ByteArray := x.src.extract (tokA x.src s.pos) (tokB x.src s.pos)
def nameD (x : Sx) (y : Ps × Int) : Ps × Int := ({ y.1 with pos := tokB x.src y.1.pos }, thr y.2 (mayN (tokS x y.1).size))
def takeV (y : Ps × Int) : Int := if y.2 = 0 ∧ 0 < y.1.data.length then y.1.data.getD (y.1.data.length - 1) 0 else 0
def takeD (y : Ps × Int) : Ps × Int := if y.2 = 0 then (if 0 < y.1.data.length then ({ y.1 with data := y.1.data.take (y.1.data.length - 1) }, 0) else (y.1, -4)) else y
def giveD (x : Sx) (y : Ps × Int) (v : Int) : Ps × Int := if y.2 = 0 then (if x.depth < y.1.data.length + 1 then (y.1, -3) else ({ y.1 with data := y.1.data ++ [v] }, 0)) else y

theorem RdP.withPos {w : World} {q : Ad} {s : Ps} (h : RdP w q s) (n : Int) : RdP w q { s with pos := n } := ⟨h.mem, h.memB, h.data, h.ret, h.ctl, h.words, h.spots, h.out, h.outB⟩
theorem Lies.withPos {q : Ad} {s : Ps} {S : Nat → Prop} (h : Lies q s S) (n : Int) : Lies q { s with pos := n } S := ⟨h.mem, h.data, h.ret, h.ctl, h.words, h.spots, h.out⟩
theorem tok_size (x : Sx) (s : Ps) (h : x.src.size ≤ 200) : (tokS x s).size ≤ 200 := by
  unfold tokS
  rw [ByteArray.size_extract]
  omega

set_option maxRecDepth 100000 in
set_option maxHeartbeats 2000000 in
theorem Token_go (g : Nat) (q : Ad) (s : Ps) (x : Sx) (e : Int) (w : World) (h : Dk w g q s x e) (hx : x.src.size ≤ 200) :
    Calls Tryz.prog 109 #[.pointer (some ⟨g, 0, none⟩)] w fun r w' => r = .returned (.string (tokS x s)) ∧ Td g w q s w' q { s with pos := tokB x.src s.pos } x e := by
  have H := Lib.hid h
  have c9 := h.pos
  have c15 := h.src
  have hg := h.lt
  have hsz : x.src.size ≤ maxLen := by unfold maxLen; omega
  clear h
  go_enter Tryz.func109, Tryz.ntmps109
  go_wp2_with fail
  go_region_law (first
    | (go_simp; go_at_call 132; refine (L06.Token_any x.src s.pos _ hsz).mono ?_; rintro r w2 ⟨rfl, hb⟩; have hb2 : Below w.heap.size w w2 := (Below.refl _ _).drew.trans hb))
  all_goals
    have HB := Lib.hid hb2
    have H2 := Lib.hid (H.out.below hb2)
    clear hb hb2 c9 c15
    go_wp2_with (refine wp_storeF rfl 3 _ _ rfl g 9 _ rfl rfl rfl 62 _ H2.out.bx 21 rfl (by decide) info1i ?_)
    intro w3 hg3 hw3
    have HG : Hid (Bx w3 g 62 (wdL q { s with pos := (tokB x.src s.pos : Int) } x e)) := Lib.hid hg3
    have HW := Lib.hid hw3
    clear hg3 hw3
    go_wp2
    go_ret
    exact ⟨rfl, Td.of_below HB.out ⟨⟨HG.out, (H2.out.rd.grown H2.out.ls HW.out (fun h => h rfl)).withPos _, H2.out.ls.withPos _⟩, fun S hS => (hS.withPos _).mono (fun _ h => .inl h), HW.out⟩⟩
theorem Name_go (g : Nat) (q : Ad) (s : Ps) (x : Sx) (e : Int) (s' : Ps) (e' : Int) (w : World) (hr : nameD x (s, e) = (s', e')) (h : Dk w g q s x e) (hx : x.src.size ≤ 200) :
    Calls Tryz.prog 100 #[.pointer (some ⟨g, 0, none⟩)] w fun r w' => r = .returned (.string (tokS x s)) ∧ Td g w q s w' q s' x e' := by
  injection hr with h1 h2
  subst h1 h2
  have HS := Lib.hid (tok_size x s hx)
  have HC := Lib.hid (Token_go g q s x e w h hx)
  clear h
  go_enter Tryz.func100, Tryz.ntmps100
  go_wp2_with fail
  refine HC.out.mono ?_
  rintro r w1 ⟨rfl, ht⟩
  have HT := Lib.hid ht
  clear ht HC
  go_wp2_with fail
  refine (May_any (tokS x s) w1 (by have := HS.out; unfold maxLen; omega)).mono ?_
  rintro r w2 ⟨rfl, rfl⟩
  go_wp2_with fail
  refine (Fail_any g q _ x e (mayN (tokS x s).size) w1 HT.out.wk).mono ?_
  rintro r w3 ⟨rfl, ht⟩
  have HT3 := Lib.hid (HT.out.trans ht)
  clear ht
  go_wp2
  go_ret
  exact ⟨rfl, HT3.out⟩

set_option maxRecDepth 100000 in
set_option maxHeartbeats 2000000 in
theorem Emit_go (g : Nat) (q : Ad) (s : Ps) (x : Sx) (e : Int) (A : Option Addr) (c n : Nat) (l : List Int) (s' : Ps) (e' : Int) (w : World) (hn : l.length = n) (hr : emitD (s, e) l = (s', e')) (h : Dk w g q s x e) (hx : RdI w .i64 A c l) (hl : s.mem.length ≤ 140737488355328) (hsp : s.spots.length + n ≤ 1000000) :
    Calls Tryz.prog 51 #[.pointer (some ⟨g, 0, none⟩), .slice A n c] w fun r w' => r = .returned (.tuple #[]) ∧ ∃ q', Td g w q s w' q' s' x e' := by
  have H := Lib.hid h
  have HX := Lib.hid hx
  have hg := h.lt
  by_cases h0 : e = 0
  · subst h0
    obtain ⟨s1, hs1⟩ : ∃ a, emitS s l = a := ⟨_, rfl⟩
    obtain ⟨e1, he1⟩ : ∃ a, emitE s l = a := ⟨_, rfl⟩
    rw [emitD, if_pos rfl] at hr
    simp only at hr
    rw [hs1, he1] at hr
    have HS1 := Lib.hid hs1
    have HE1 := Lib.hid he1
    have HR := Lib.hid hr
    have HN := Lib.hid hn
    clear h hx hs1 he1 hr hn
    go_enter Tryz.func51, Tryz.ntmps51
    go_wp2_with fail
    refine (Ok_any g 0 true _ rfl H.out.er).mono ?_
    rintro r w1 ⟨rfl, rfl⟩
    go_wp2_with (refine wp_loadD rfl _ rfl g rfl q s x 0 H.out ?_)
    refine (Emit_any q s A c n l s1 e1 w HN.out HS1.out HE1.out H.out.rd HX.out hl hsp).mono ?_
    rintro r w2 ⟨q2, rfl, hres, hb⟩
    have HRS := Lib.hid hres
    have HB := Lib.hid hb
    have HLS : Hid (Lies q2 s1 (fun b => b ≠ g)) := Lib.hid ((hres.lies _ H.out.ls).mono (fun b hb => hb.elim id (fun hb => by omega)))
    clear hres hb
    by_cases h1 : e1 = 0
    · subst h1
      have hr := HR.out
      rw [if_pos rfl] at hr
      injection hr with hr1 hr2
      subst hr1 hr2
      go_wp2_with fail
      refine (Keep_ok g q s x q2 s1 w2 (H.out.below HB.out) HRS.out.rd HLS.out).mono ?_
      rintro r w3 ⟨rfl, hk, hgr⟩
      have HK := Lib.hid hk
      have HGR := Lib.hid ((grown_of_below HB.out).trans hgr)
      clear hk hgr
      go_wp2
      first | go_end0 | go_ret
      exact ⟨rfl, q2, HK.out, HRS.out.lies, HGR.out⟩
    · have hr := HR.out
      rw [if_neg h1] at hr
      injection hr with hr1 hr2
      subst hr1 hr2
      go_wp2_with fail
      refine (Keep_no g q s x 0 e1 q2 s1 w2 (by simpa [thr] using h1) (H.out.below HB.out)).mono ?_
      rintro r w3 ⟨rfl, ht⟩
      have HT := Lib.hid (Td.of_below HB.out ht)
      clear ht
      go_wp2
      first | go_end0 | go_ret
      exact ⟨rfl, q, HT.out⟩
  · rw [emitD, if_neg h0] at hr
    injection hr with hr1 hr2
    subst hr1 hr2
    clear h hx
    go_enter Tryz.func51, Tryz.ntmps51
    go_wp2_with fail
    refine (Ok_any g e false _ (by simpa using h0) H.out.er).mono ?_
    rintro r w1 ⟨rfl, rfl⟩
    go_wp2
    first | go_end0 | go_ret
    exact ⟨rfl, q, Td.same H.out⟩
end Go.Proofs.YtappfhjknihboaaGreatDoor


/- defs.Found and the reference's. -/
namespace Go.Proofs.YtappfhjknihboaaGreatDoor
open Go.RowKit

/-- What stands for a name. -/
def foundC (s : Ps) (n : ByteArray) : Int := if 0 ≤ L07.findN s.words (foldB n) then (s.words[(L07.findN s.words (foldB n)).toNat]!).code else findR (foldB n)
def foundN (s : Ps) (n : ByteArray) : Bool := if 0 ≤ L07.findN s.words (foldB n) then (s.words[(L07.findN s.words (foldB n)).toNat]!).now else nowR (findR (foldB n))
def foundI (s : Ps) (n : ByteArray) : Bool := if 0 ≤ L07.findN s.words (foldB n) then true else decide (findR (foldB n) ≠ 0)
theorem findN_lt (l : List Wd) (f : ByteArray) : L07.findN l f < l.length := by
  unfold L07.findN
  omega

set_option maxRecDepth 100000 in
set_option maxHeartbeats 2000000 in
theorem Found_any (q : Ad) (s : Ps) (n : ByteArray) (c : Int) (now is : Bool) (w : World) (hc : foundC s n = c) (hnw : foundN s n = now) (hi : foundI s n = is) (hp : RdP w q s) (hwl : s.words.length ≤ 1000000) (hws : ∀ x ∈ s.words, x.nm.size ≤ 140737488355327) (hn : n.size ≤ 140737488355327) (ht : Tab w) :
    Calls Tryz.prog 13 #[stV q s, .string n] w fun e w' => e = .returned (.tuple #[.int .i64 c, .bool now, .bool is]) ∧ Below w.heap.size w w' := by
  have HB0 := Lib.hid (below_lit w (.cells (stL q s).toArray 28))
  have HG0 : Hid (Bx (w.alloc (.cells (stL q s).toArray 28)) w.heap.size 28 (stL q s)) := Lib.hid (Bx.new w _ _ _ _ rfl rfl)
  have HP := Lib.hid (hp.below HB0.out)
  have HT := Lib.hid (ht.below HB0.out)
  have HWS := Lib.hid hws
  clear hp ht hws
  obtain ⟨i, hfi⟩ : ∃ i, L07.findN s.words (foldB n) = i := ⟨_, rfl⟩
  have hlt := findN_lt s.words (foldB n)
  rw [hfi] at hlt
  unfold foundC at hc
  unfold foundN at hnw
  unfold foundI at hi
  rw [hfi] at hc hnw hi
  have HF := Lib.hid hfi
  clear hfi
  rw [stV_eq q s]
  go_enter Tryz.func13, Tryz.ntmps13
  have c4 : (w.alloc (.cells (stL q s).toArray 28)).cell? ⟨w.heap.size, 4, none⟩ = some (.slice q.w s.words.length q.wc) := HG0.out.cell 4
  obtain ⟨W, hW⟩ : ∃ W, w.alloc (.cells (stL q s).toArray 28) = W := ⟨_, rfl⟩
  go_wp2_with fail
  rw [show w.alloc (.cells #[.slice q.m s.mem.length q.mc, .slice q.d s.data.length q.dc, .slice q.r s.ret.length q.rc, .slice q.c s.ctl.length q.cc, .slice q.w s.words.length q.wc, .slice q.s s.spots.length q.sc, .slice q.o s.out.length q.oc, .int .i64 s.ip, .int .i64 s.here, .int .i64 s.pos, .int .i64 s.tok, .int .i64 s.inp, .int .i64 s.err, .bool s.comp, .bool s.halt] 28) = W from hW]
  rw [hW] at HB0 HG0 HP HT
  clear c4 hW
  refine (L07.Find_any q.w q.wc s.words n W HP.out.words (by omega) HWS.out hn).mono ?_
  rw [HF.out]
  rintro e w1 ⟨rfl, hb⟩
  have HB := Lib.hid (below_two HB0.out hb)
  have HP1 := Lib.hid (HP.out.below hb)
  have HG1 := Lib.hid (HG0.out.below hb)
  have HT1 := Lib.hid (HT.out.below hb)
  clear hb
  by_cases h0 : 0 ≤ i
  · rw [if_pos h0] at hc hnw hi
    obtain ⟨k, rfl⟩ : ∃ k : Nat, i = k := ⟨i.toNat, by omega⟩
    rw [Int.toNat_natCast] at hc hnw
    have hk : k < s.words.length := by omega
    obtain ⟨ad, hA, hcw⟩ := RdE.all encW_len (by decide) HP1.out.words (by omega)
    have c4 : w1.cell? ⟨w.heap.size, 4, none⟩ = some (.slice (some ad) s.words.length q.wc) := by rw [← hA]; exact HG1.out.cell 4
    have e1 := hcw.at' hk 1 (by decide) (v := .int .i64 c) (by rw [← hc]; rfl)
    have e2 := hcw.at' hk 2 (by decide) (v := .bool now) (by rw [← hnw]; rfl)
    have hle := HP1.out.words.le
    have hcap := HP1.out.words.cap
    unfold maxLen at hcap
    clear hcw hA hc hnw
    subst hi
    go_wp2_with fail
    go_region
    all_goals
      go_wp2
      go_ret3
      exact ⟨rfl, HB.out.drew⟩
  · rw [if_neg h0] at hc hnw hi
    have HC := Lib.hid hc
    have hnow : nowR c = now := by rw [← hc]; exact hnw
    have hisb : decide (c ≠ 0) = is := by rw [← hc]; exact hi
    have HNW := Lib.hid hnow
    clear hc hnw hi hnow
    go_wp2_with fail
    refine (Find_any n c w1 HC.out hn HT1.out).mono ?_
    rintro e w2 ⟨rfl, hb⟩
    have HB2 := Lib.hid (below_two HB.out hb)
    have HT2 := Lib.hid (HT1.out.below hb)
    clear hb
    go_wp2_with fail
    refine (Now_any c now w2 HNW.out HT2.out).mono ?_
    rintro e w3 ⟨rfl, hb⟩
    have HB3 := Lib.hid (below_two HB2.out hb)
    have hb2 : (c != 0) = is := by rw [← hisb]; simp [bne, decide_not]; rfl
    clear hb hisb
    go_wp2
    go_ret3
    exact ⟨rfl, HB3.out⟩

/-- .. as the reference tells it. -/
theorem found_zero {s : Ps} {n : ByteArray} (h : ¬ 0 ≤ L07.findN s.words (foldB n)) (h0 : findR (foldB n) = 0) : foundC s n = 0 ∧ foundN s n = false ∧ foundI s n = false := by
  unfold foundC foundN foundI
  rw [if_neg h, if_neg h, if_neg h, h0]
  exact ⟨rfl, rfl, rfl⟩
theorem results_S1 {P : Program} {fn : Func} {p : Tmp} {ty : TypeId} (h : fn.results = #[.cell p ty]) (tmps : Array Value) (w : World) (g : Nat) (t : TypeId) (cs : List Value) (d : TypeDesc)
    (hp : tmps.getD p undef = .pointer (some ⟨g, 0, none⟩)) (hg : Bx w g t cs)
    (hu : P.underlying ty = some d) (hd : (match d with | .struct _ | .array _ _ => true | _ => false) = true) (m : Nat) (hi : (P.info? ty).map (·.size) = some m) (hm : cs.length = m) :
    (results fn tmps).run P w = .ok (.agg cs.toArray) w := by
  rw [Array.getD_eq_getD_getElem?] at hp
  rw [results, h]
  simp [hp, asAddr, run_loadVar_row w g t ty cs.toArray (0, 0) d hg hu hd (by rw [hi, List.size_toArray, hm])]
theorem info3w : (Tryz.prog.info? 40).map (·.size) = some 3 := by kernel_rfl
set_option maxRecDepth 100000 in
set_option maxHeartbeats 2000000 in
theorem RFound_any (q : Ad) (s : Ps) (n : ByteArray) (c : Int) (now is : Bool) (w : World) (hc : foundC s n = c) (hnw : foundN s n = now) (hi : foundI s n = is) (hp : RdP w q s) (hwl : s.words.length ≤ 1000000) (hws : ∀ x ∈ s.words, x.nm.size ≤ 140737488355327) (hn : n.size ≤ 140737488355327) :
    Calls Tryz.prog 14 #[stV q s, .string n] w fun e w' => e = .returned (.agg #[.int .i64 c, .bool now, .bool is]) ∧ Below w.heap.size w w' := by
  have HB0 := Lib.hid (below_two (below_lit w (.cells (stL q s).toArray 28)) (below_lit _ (.cells #[.int .i64 0, .bool false, .bool false] 40)))
  have HG0 : Hid (Bx ((w.alloc (.cells (stL q s).toArray 28)).alloc (.cells #[.int .i64 0, .bool false, .bool false] 40)) w.heap.size 28 (stL q s)) := Lib.hid ((Bx.new w _ _ _ _ rfl rfl).alloc _)
  have HR0 : Hid (Bx ((w.alloc (.cells (stL q s).toArray 28)).alloc (.cells #[.int .i64 0, .bool false, .bool false] 40)) (w.heap.size + 1) 40 [.int .i64 0, .bool false, .bool false]) := Lib.hid (Bx.new _ _ _ _ _ (by simp) rfl)
  have HP := Lib.hid (hp.below HB0.out)
  have HWS := Lib.hid hws
  clear hp hws
  obtain ⟨i, hfi⟩ : ∃ i, L07.findN s.words (foldB n) = i := ⟨_, rfl⟩
  have hlt := findN_lt s.words (foldB n)
  have hz := found_zero (s := s) (n := n)
  rw [hfi] at hlt hz
  unfold foundC at hc
  unfold foundN at hnw
  unfold foundI at hi
  rw [hfi] at hc hnw hi
  have HF := Lib.hid hfi
  clear hfi hz
  rw [stV_eq q s]
  go_enter Tryz.func14, Tryz.ntmps14
  obtain ⟨W, hW⟩ : ∃ W, (w.alloc (.cells (stL q s).toArray 28)).alloc (.cells #[.int .i64 0, .bool false, .bool false] 40) = W := ⟨_, rfl⟩
  have c4 : ((w.alloc (.cells (stL q s).toArray 28)).alloc (.cells #[.int .i64 0, .bool false, .bool false] 40)).cell? ⟨w.heap.size, 4, none⟩ = some (.slice q.w s.words.length q.wc) := HG0.out.cell 4
  go_wp2_with fail
  rw [show (w.alloc (.cells #[.slice q.m s.mem.length q.mc, .slice q.d s.data.length q.dc, .slice q.r s.ret.length q.rc, .slice q.c s.ctl.length q.cc, .slice q.w s.words.length q.wc, .slice q.s s.spots.length q.sc, .slice q.o s.out.length q.oc, .int .i64 s.ip, .int .i64 s.here, .int .i64 s.pos, .int .i64 s.tok, .int .i64 s.inp, .int .i64 s.err, .bool s.comp, .bool s.halt] 28)).alloc (.cells #[.int .i64 0, .bool false, .bool false] 40) = W from hW]
  rw [hW] at HB0 HG0 HR0 HP
  clear c4 hW
  refine (L07.RFind_any q.w q.wc s.words n W HP.out.words (by omega) HWS.out hn).mono ?_
  rw [HF.out]
  rintro e w1 ⟨rfl, hb⟩
  have HB := Lib.hid (below_two HB0.out hb)
  have HP1 := Lib.hid (HP.out.below hb)
  have HG1 := Lib.hid (HG0.out.below hb)
  have HR1 := Lib.hid (HR0.out.below hb)
  clear hb
  by_cases h0 : 0 ≤ i
  · rw [if_pos h0] at hc hnw hi
    obtain ⟨k, rfl⟩ : ∃ k : Nat, i = k := ⟨i.toNat, by omega⟩
    rw [Int.toNat_natCast] at hc hnw
    have hk : k < s.words.length := by omega
    obtain ⟨ad, hA, hcw⟩ := RdE.all encW_len (by decide) HP1.out.words (by omega)
    have c4 : w1.cell? ⟨w.heap.size, 4, none⟩ = some (.slice (some ad) s.words.length q.wc) := by rw [← hA]; exact HG1.out.cell 4
    have e1 := hcw.at' hk 1 (by decide) (v := .int .i64 c) (by rw [← hc]; rfl)
    have e2 := hcw.at' hk 2 (by decide) (v := .bool now) (by rw [← hnw]; rfl)
    have hle := HP1.out.words.le
    have hcap := HP1.out.words.cap
    unfold maxLen at hcap
    clear hcw hA hc hnw
    subst hi
    have k0 : w1.cell? ⟨w.heap.size + 1, 0, none⟩ = some (.int .i64 0) := HR1.out.cell 0
    have k1 : w1.cell? ⟨w.heap.size + 1, 1, none⟩ = some (.bool false) := HR1.out.cell 1
    have k2 : w1.cell? ⟨w.heap.size + 1, 2, none⟩ = some (.bool false) := HR1.out.cell 2
    have f0 := HR1.out.free 0
    have f1 := HR1.out.free 1
    have f2 := HR1.out.free 2
    go_wp2_with fail
    go_region
    all_goals
      go_wp2
      refine bodyPost_ret (results_S1 Tryz.results14 _ _ (w.heap.size + 1) 40 [.int .i64 c, .bool now, .bool true] _ rfl (((HR1.out.setc 0 _).setc 1 _).setc 2 _) Tryz.underlying40 rfl 3 info3w rfl) rfl ?_
      exact ⟨rfl, ((HB.out.drew.setCell (by simp) _).setCell (by simp) _).setCell (by simp) _⟩
  · rw [if_neg h0] at hc hnw hi
    have HC := Lib.hid hc
    have hnow : nowR c = now := by rw [← hc]; exact hnw
    have hisb : decide (c ≠ 0) = is := by rw [← hc]; exact hi
    have HNW := Lib.hid hnow
    clear hc hnw hi hnow
    go_wp2_with fail
    refine (RFind_any n c w1 HC.out hn).mono ?_
    rintro e w2 ⟨rfl, hb⟩
    have HB2 := Lib.hid (below_two HB.out hb)
    have HR2 := Lib.hid (HR1.out.below hb)
    clear hb
    by_cases hc0 : c = 0
    · subst hc0
      obtain rfl : now = false := by rw [← HNW.out]; rfl
      obtain rfl : is = false := by rw [← hisb]; rfl
      go_wp2_with (refine wp_storeS rfl 40 _ _ rfl (w.heap.size + 1) [.int .i64 0, .bool false, .bool false] rfl rfl 40 _ HR2.out 3 info3w rfl rfl rfl ?_)
      intro w3 hg3 hw3
      have HG3 := Lib.hid hg3
      have HB3 := Lib.hid (below_grown HB2.out HB2.out.size hw3 (by omega))
      clear hg3 hw3
      go_wp2
      refine bodyPost_ret (results_S1 Tryz.results14 _ _ (w.heap.size + 1) 40 [.int .i64 0, .bool false, .bool false] _ rfl HG3.out Tryz.underlying40 rfl 3 info3w rfl) rfl ?_
      exact ⟨rfl, HB3.out⟩
    · obtain rfl : is = true := by rw [← hisb]; simpa using hc0
      go_wp2_with fail
      refine (RNow_any c now w2 HNW.out).mono ?_
      rintro e w3 ⟨rfl, rfl⟩
      go_wp2_with (refine wp_storeS rfl 40 _ _ rfl (w.heap.size + 1) [.int .i64 c, .bool now, .bool true] rfl rfl 40 _ HR2.out 3 info3w rfl rfl rfl ?_)
      intro w3 hg3 hw3
      have HG3 := Lib.hid hg3
      have HB3 := Lib.hid (below_grown HB2.out HB2.out.size hw3 (by omega))
      clear hg3 hw3
      go_wp2
      refine bodyPost_ret (results_S1 Tryz.results14 _ _ (w.heap.size + 1) 40 [.int .i64 c, .bool now, .bool true] _ rfl HG3.out Tryz.underlying40 rfl 3 info3w rfl) rfl ?_
      exact ⟨rfl, HB3.out⟩
end Go.Proofs.YtappfhjknihboaaGreatDoor


/- defs.Say and the reference's. -/
namespace Go.Proofs.YtappfhjknihboaaGreatDoor
open Go.RowKit

set_option maxRecDepth 100000 in
theorem sl_hmiB (A : Option Addr) (n c j : Nat) (w : World) (h : j ≤ c) : (Instr.sliceAt 22 (.slice A n c) none (some (.int .i64 j)) (some (.int .i64 j))).run Tryz.prog w = .ok (.slice A j j) w := by
  have e2 : Tryz.prog.elem 22 = 5 := by kernel_rfl
  have ht : Tryz.prog.underlying 22 = some (.slice (Tryz.prog.elem 22)) := by rw [e2]; exact Tryz.underlying22
  rw [run_sliceAt_slice _ _ _ _ _ _ ht, run_slice_hm _ _ _ _ _ ht .i64 .i64 j j (by omega) (by omega) (by omega), e2, Tryz.sizeOf5 w]
  simp only [Result.andThen, sliced, Int.toNat_natCast, Nat.zero_mul, Nat.sub_zero]
  congr 2
  cases A <;> simp [Addr.add]
theorem ClipB_any (A : Option Addr) (n c : Nat) (w : World) (h : n ≤ c) :
    Calls Tryz.prog 37 #[.slice A n c] w fun r w' => r = .returned (.slice A n n) ∧ w = w' := by
  have hs := fun w => sl_hmiB A n c n w h
  go_enter Tryz.func37, Tryz.ntmps37
  go_wp2
  go_ret
  exact ⟨rfl, rfl⟩
set_option maxRecDepth 100000 in
theorem sl_hmiW (A : Option Addr) (n c j : Nat) (w : World) (h : j ≤ c) : (Instr.sliceAt 25 (.slice A n c) none (some (.int .i64 j)) (some (.int .i64 j))).run Tryz.prog w = .ok (.slice A j j) w := by
  have e2 : Tryz.prog.elem 25 = 47 := by kernel_rfl
  have ht : Tryz.prog.underlying 25 = some (.slice (Tryz.prog.elem 25)) := by rw [e2]; exact Tryz.underlying25
  rw [run_sliceAt_slice _ _ _ _ _ _ ht, run_slice_hm _ _ _ _ _ ht .i64 .i64 j j (by omega) (by omega) (by omega), e2, Tryz.sizeOf47 w]
  simp only [Result.andThen, sliced, Int.toNat_natCast, Nat.zero_mul, Nat.sub_zero]
  congr 2
  cases A <;> simp [Addr.add]
theorem ClipW_any (A : Option Addr) (n c : Nat) (w : World) (h : n ≤ c) :
    Calls Tryz.prog 102 #[.slice A n c] w fun r w' => r = .returned (.slice A n n) ∧ w = w' := by
  have hs := fun w => sl_hmiW A n c n w h
  go_enter Tryz.func102, Tryz.ntmps102
  go_wp2
  go_ret
  exact ⟨rfl, rfl⟩

def sayE (s : Ps) (x : Sx) (b : ByteArray) : Int := if x.room < s.out.length + b.size then -57 else 0
def sayS (s : Ps) (x : Sx) (b : ByteArray) : Ps := if x.room < s.out.length + b.size then zeroP else { s with out := s.out ++ outS b }
theorem RdP.withOut {w : World} {q : Ad} {s : Ps} (h : RdP w q s) {A : Option Addr} {c : Nat} {m : List Int} (hr : RdI w .u8 A c m) (hb : isB m) : RdP w { q with o := A, oc := c } { s with out := m } := ⟨h.mem, h.memB, h.data, h.ret, h.ctl, h.words, h.spots, hr, hb⟩
theorem isB_app {a b : List Int} (ha : isB a) (hb : isB b) : isB (a ++ b) := fun x hx => (List.mem_append.1 hx).elim (ha x) (hb x)
theorem infoSu : (Tryz.prog.info? 30).map (·.size) = some 5 := by kernel_rfl
theorem infoB1 : (Tryz.prog.info? 5).map (fun i => (i.zero, i.size, i.bytes)) = some (some (.int .u8 0), 1, 1) := by kernel_rfl

set_option maxRecDepth 100000 in
set_option maxHeartbeats 2000000 in
theorem Say_any (q : Ad) (s : Ps) (x : Sx) (b : ByteArray) (s' : Ps) (e' : Int) (w : World) (hs : sayS s x b = s') (he : sayE s x b = e') (hp : RdP w q s) (hol : s.out.length ≤ 100000) (hb : b.size ≤ 100000) :
    Calls Tryz.prog 15 #[stV q s, suV x, .string b] w fun e w' => ∃ q', e = .returned (.tuple #[stV q' s', .int .i64 e']) ∧ Res w.heap.size q s w' q' s' ∧ Below w.heap.size w w' := by
  have hB0 := below_two (below_two (below_lit w (.cells (stL q s).toArray 28)) (below_lit _ (.cells (suL x).toArray 30))) (below_lit _ (.cells (stL nilA zeroP).toArray 28))
  have hS : Bx (((w.alloc (.cells (stL q s).toArray 28)).alloc (.cells (suL x).toArray 30)).alloc (.cells (stL nilA zeroP).toArray 28)) w.heap.size 28 (stL q s) := ((Bx.new w _ _ _ _ rfl rfl).alloc _).alloc _
  have hX : Bx (((w.alloc (.cells (stL q s).toArray 28)).alloc (.cells (suL x).toArray 30)).alloc (.cells (stL nilA zeroP).toArray 28)) (w.heap.size + 1) 30 (suL x) := (Bx.new _ _ _ _ _ (by simp) rfl).alloc _
  have hR : Bx (((w.alloc (.cells (stL q s).toArray 28)).alloc (.cells (suL x).toArray 30)).alloc (.cells (stL nilA zeroP).toArray 28)) (w.heap.size + 2) 28 (stL nilA zeroP) := Bx.new _ _ _ _ _ (by simp) rfl
  obtain ⟨W, hW⟩ : ∃ W, ((w.alloc (.cells #[.slice q.m s.mem.length q.mc, .slice q.d s.data.length q.dc, .slice q.r s.ret.length q.rc, .slice q.c s.ctl.length q.cc, .slice q.w s.words.length q.wc, .slice q.s s.spots.length q.sc, .slice q.o s.out.length q.oc, .int .i64 s.ip, .int .i64 s.here, .int .i64 s.pos, .int .i64 s.tok, .int .i64 s.inp, .int .i64 s.err, .bool s.comp, .bool s.halt] 28)).alloc (.cells #[.string x.src, .slice x.iA x.iN x.iC, .int .i64 x.size, .int .i64 x.depth, .int .i64 x.room] 30)).alloc (.cells #[.slice none 0 0, .slice none 0 0, .slice none 0 0, .slice none 0 0, .slice none 0 0, .slice none 0 0, .slice none 0 0, .int .i64 0, .int .i64 0, .int .i64 0, .int .i64 0, .int .i64 0, .int .i64 0, .bool false, .bool false] 28) = W := ⟨_, rfl⟩
  have HB0 : Hid (Below w.heap.size w W) := Lib.hid (by rw [← hW]; exact hB0)
  have HS : Hid (Bx W w.heap.size 28 (stL q s)) := Lib.hid (by rw [← hW]; exact hS)
  have HX : Hid (Bx W (w.heap.size + 1) 30 (suL x)) := Lib.hid (by rw [← hW]; exact hX)
  have HR : Hid (Bx W (w.heap.size + 2) 28 (stL nilA zeroP)) := Lib.hid (by rw [← hW]; exact hR)
  have HP : Hid (RdP W q s) := Lib.hid (hp.below HB0.out)
  have HL : Hid (Lies q s (fun b => b < w.heap.size)) := Lib.hid hp.lies
  have HWW := Lib.hid hW
  have hn := hp.out.le
  have hcp := hp.out.cap
  unfold maxLen at hcp
  clear hp hB0 hS hX hR hW
  unfold sayS at hs
  unfold sayE at he
  rw [stV_eq q s, suV_eq x]
  go_enter Tryz.func15, Tryz.ntmps15
  by_cases hrm : x.room < s.out.length + b.size
  · rw [if_pos hrm] at hs he
    subst hs he
    go_wp2_with (refine wp_storeS rfl 28 _ _ rfl (w.heap.size + 2) (stL nilA zeroP) rfl rfl 28 (stL nilA zeroP) (by rw [HWW.out]; exact HR.out) 15 infoSt rfl rfl rfl ?_)
    rw [HWW.out]
    intro w2 hg2 hw2
    have HG := Lib.hid hg2
    have HB2 := Lib.hid (below_grown HB0.out HB0.out.size hw2 (by omega))
    clear hg2 hw2
    go_wp2
    refine bodyPost_ret (v := .tuple #[stV nilA zeroP, .int .i64 (-57)]) (results_S Tryz.results15 _ _ (w.heap.size + 2) 28 _ _ rfl HG.out Tryz.underlying28 rfl 15 infoSt rfl _ rfl) rfl ?_
    exact ⟨nilA, rfl, Res.zero _ _ _ _, HB2.out⟩
  · rw [if_neg hrm] at hs he
    subst hs he
    go_wp2_with fail
    rw [HWW.out]
    refine (ClipB_any q.o s.out.length q.oc W hn).mono ?_
    rintro e w1 ⟨rfl, rfl⟩
    go_wp2_with (refine wp_appS rfl (.tmp 20) (.tmp 21) 22 9 5 rfl Tryz.underlying22 Tryz.underlying9 infoB1 q.o s.out.length s.out rfl HP.out.out.clip b rfl (by omega) ?_)
    intro A' c' w2 hrd hb2 ha
    have HRD : Hid (RdI w2 .u8 A' c' (s.out ++ outS b)) := Lib.hid (by
      have h := hrd
      rw [show s.out.length + b.size = (s.out ++ outS b).length by rw [List.length_append, outS_len]] at h
      exact h)
    have HA : Hid (A' = q.o ∧ b = ByteArray.empty ∨ ∀ ad, A' = some ad → W.heap.size ≤ ad.block) := Lib.hid ha
    have HB2 := Lib.hid hb2
    have HS2 := Lib.hid (HS.out.below hb2)
    have HR2 := Lib.hid (HR.out.below hb2)
    have hsz := HR.out.lt
    clear hrd hb2 ha
    go_wp2_with (refine wp_storeF rfl 22 _ _ rfl w.heap.size 6 _ rfl rfl rfl 28 _ HS2.out 15 rfl (by decide) info1m ?_)
    intro w3 hg3 hw3
    have HS3 : Hid (Bx w3 w.heap.size 28 (stL { q with o := A', oc := c' } { s with out := s.out ++ outS b })) := Lib.hid (by
      have e : (stL q s).set 6 (.slice A' (s.out.length + b.size) c') = stL { q with o := A', oc := c' } { s with out := s.out ++ outS b } := by
        unfold stL
        rw [show (s.out ++ outS b).length = s.out.length + b.size by rw [List.length_append, outS_len]]
        rfl
      rw [← e]
      exact hg3)
    have HR3 := Lib.hid (HR2.out.grown hw3 (by omega))
    have HW3 := Lib.hid hw3
    clear hg3 hw3
    go_wp2_with (first
      | (refine wp_loadS rfl 28 _ rfl w.heap.size rfl 28 _ _ HS3.out Tryz.underlying28 rfl 15 infoSt rfl ?_)
      | (refine wp_storeS rfl 28 _ _ rfl (w.heap.size + 2) (stL { q with o := A', oc := c' } { s with out := s.out ++ outS b }) rfl rfl 28 _ HR3.out 15 infoSt rfl rfl (stL_one _ _) ?_))
    intro w4 hg4 hw4
    have HG4 := Lib.hid hg4
    have HW4 := Lib.hid hw4
    clear hg4 hw4
    have HOLD : ∀ S : Nat → Prop, Lies q s S → Lies { q with o := A', oc := c' } { s with out := s.out ++ outS b } (fun b => S b ∨ W.heap.size ≤ b) := by
      intro S h
      refine ⟨fun a b c => .inl (h.mem a b c), fun a b c => .inl (h.data a b c), fun a b c => .inl (h.ret a b c), fun a b c => .inl (h.ctl a b c), fun a b c => .inl (h.words a b c), fun a b c => .inl (h.spots a b c), fun h0 ad e => ?_⟩
      rcases HA.out with ⟨ha, hb0⟩ | ha
      · have h0 : 0 < (s.out ++ outS b).length := h0
        rw [List.length_append, outS_len, hb0] at h0
        exact .inl (h.out h0 ad (by rw [← ha]; exact e))
      · exact .inr (ha ad e)
    have HOL := Lib.hid HOLD
    have HOO := Lib.hid (HOLD _ HL.out)
    clear HOLD
    have hR3 : RdP w4 { q with o := A', oc := c' } { s with out := s.out ++ outS b } :=
      (((HP.out.below HB2.out).withOut HRD.out (isB_app HP.out.outB (outS_isB b))).grown HOO.out HW3.out (by omega)).grown HOO.out HW4.out (by omega)
    have HR5 := Lib.hid hR3
    clear hR3
    have hWs : w.heap.size ≤ W.heap.size := HB0.out.size
    have HBE := Lib.hid (below_grown (below_grown (below_two HB0.out HB2.out) (below_two HB0.out HB2.out).size HW3.out (Nat.le_refl _)) (Nat.le_trans (below_two HB0.out HB2.out).size HW3.out.size) HW4.out (by omega))
    go_wp2
    refine bodyPost_ret (v := .tuple #[stV { q with o := A', oc := c' } { s with out := s.out ++ outS b }, .int .i64 0]) (results_S Tryz.results15 _ _ (w.heap.size + 2) 28 _ _ rfl HG4.out Tryz.underlying28 rfl 15 infoSt rfl _ rfl) rfl ?_
    exact ⟨_, rfl, ⟨HR5.out, fun S hS => (HOL.out S hS).mono (fun b hb => hb.imp id (fun h => by omega))⟩, HBE.out⟩
end Go.Proofs.YtappfhjknihboaaGreatDoor


/- defs.work: take, give, found, char. -/
namespace Go.Proofs.YtappfhjknihboaaGreatDoor
open Go.RowKit

theorem RdP.withData {w : World} {q : Ad} {s : Ps} (h : RdP w q s) {A : Option Addr} {c : Nat} {m : List Int} (hr : RdI w .i64 A c m) : RdP w { q with d := A, dc := c } { s with data := m } := ⟨h.mem, h.memB, hr, h.ret, h.ctl, h.words, h.spots, h.out, h.outB⟩
theorem Lies.withData {q : Ad} {s : Ps} {S : Nat → Prop} (h : Lies q s S) {A : Option Addr} {c : Nat} {m : List Int} (hr : 0 < m.length → ∀ ad, A = some ad → S ad.block) : Lies { q with d := A, dc := c } { s with data := m } S :=
  ⟨h.mem, hr, h.ret, h.ctl, h.words, h.spots, h.out⟩
theorem pop_one {l : List Int} (h : 0 < l.length) : L04.popR l 1 = l.take (l.length - 1) ∧ L04.popT l 1 = [l.getD (l.length - 1) 0] ∧ L04.popE l.length 1 = 0 := by
  have e : L04.popE l.length 1 = 0 := by unfold L04.popE; rw [if_neg (by omega)]
  refine ⟨by unfold L04.popR; rw [if_pos e]; rfl, ?_, e⟩
  unfold L04.popT
  rw [if_pos e]
  show l.drop (l.length - 1) = _
  rw [List.drop_eq_getElem_cons (by omega), show l.length - 1 + 1 = l.length by omega, List.drop_length]
  simp [List.getD_eq_getElem?_getD, List.getElem?_eq_getElem (show l.length - 1 < l.length by omega)]
theorem pop_none {l : List Int} (h : ¬ 0 < l.length) : L04.popR l 1 = [] ∧ L04.popT l 1 = [] ∧ L04.popE l.length 1 = -4 := by
  have e : L04.popE l.length 1 = -4 := by unfold L04.popE; rw [if_pos (by omega)]
  refine ⟨by unfold L04.popR; rw [if_neg (by rw [e]; decide)], ?_, e⟩
  unfold L04.popT
  rw [if_neg (by rw [e]; decide)]

theorem take_lies {q : Ad} {s : Ps} {S : Nat → Prop} (h : Lies q s S) {A1 : Option Addr} {c1 : Nat} {m : List Int} {A2 : Option Addr} (ha : L04.PopAt q.d A1 A2) (hm : 0 < m.length → 0 < s.data.length) : Lies { q with d := A1, dc := c1 } { s with data := m } S :=
  h.withData (fun h0 ad e => by
    rcases ha.1 with ha | ha
    · exact h.data (hm h0) ad (by rw [← ha]; exact e)
    · rw [ha] at e
      cases e)
theorem pop_is (A : Option Addr) (c n : Nat) (l r1 r2 : List Int) (t : Int) (w : World) (hn : l.length = n) (h1 : L04.popR l 1 = r1) (h2 : L04.popT l 1 = r2) (ht : L04.popE l.length 1 = t) (hx : RdI w .i64 A c l) :
    Calls Tryz.prog 104 #[.slice A n c, .int .i64 1] w fun e w' => ∃ A1 c1 A2 c2, L04.PopAt A A1 A2 ∧ e = .returned (.tuple #[.slice A1 r1.length c1, .slice A2 r2.length c2, .int .i64 t]) ∧ RdI w' .i64 A1 c1 r1 ∧ RdI w' .i64 A2 c2 r2 ∧ Below w.heap.size w w' := by
  subst hn h1 h2 ht
  refine (L04.Pop1_any A c 1 l w hx (by decide)).mono ?_
  rintro e w' ⟨A1, c1, A2, c2, ha, rfl, h1, h2, k, rfl⟩
  exact ⟨A1, c1, A2, c2, ha, rfl, h1, h2, below_drewN w k⟩
set_option maxRecDepth 100000 in
set_option maxHeartbeats 2000000 in
theorem Take_go (g : Nat) (q : Ad) (s : Ps) (x : Sx) (e : Int) (v : Int) (s' : Ps) (e' : Int) (w : World) (hv : takeV (s, e) = v) (hr : takeD (s, e) = (s', e')) (h : Dk w g q s x e) :
    Calls Tryz.prog 47 #[.pointer (some ⟨g, 0, none⟩)] w fun r w' => r = .returned (.int .i64 v) ∧ ∃ q', Td g w q s w' q' s' x e' := by
  have H := Lib.hid h
  have c1 := h.data
  have hg := h.lt
  obtain ⟨n, hn⟩ : ∃ n, s.data.length = n := ⟨_, rfl⟩
  rw [hn] at c1
  unfold takeV at hv
  unfold takeD at hr
  simp only at hv hr
  rw [hn] at hv hr
  have HN := Lib.hid hn
  by_cases h0 : 0 < n
  · obtain ⟨p1, p2, p3⟩ := pop_one (l := s.data) (by omega)
    rw [hn] at p1 p2
    have HP1 := Lib.hid p1
    have HP2 := Lib.hid p2
    have HP3 := Lib.hid p3
    have hlt : (s.data.take (n - 1)).length = n - 1 := by rw [List.length_take]; omega
    have HLT := Lib.hid hlt
    clear h hn p1 p2 p3 hlt
    go_enter Tryz.func47, Tryz.ntmps47
    go_wp2_with fail
    refine (pop_is q.d q.dc n s.data _ _ 0 w HN.out HP1.out HP2.out HP3.out H.out.rd.data).mono ?_
    rintro r w1 ⟨A1, c1', A2, c2, ha, rfl, h1, h2, hb⟩
    have HA := Lib.hid ha
    have HR1 := Lib.hid h1
    have HB := Lib.hid hb
    obtain ⟨ad, hA2, e0⟩ := RdI.at_ h2 (j := 0) (by simp)
    have HE0 : Hid (w1.cell? ad = some (.int .i64 (s.data.getD (n - 1) 0)) ∧ A2 = some ad) := Lib.hid ⟨e0, hA2⟩
    rw [HLT.out]
    clear ha h1 h2 hb e0 hA2
    go_wp2_with fail
    refine (Fail_any g q s x e 0 w1 (H.out.below HB.out)).mono ?_
    rintro r w2 ⟨rfl, ht⟩
    have HT := Lib.hid (Td.of_below HB.out ht)
    have HG := Lib.hid ht.gr
    clear ht
    by_cases he : e = 0
    · subst he
      rw [if_pos ⟨rfl, h0⟩] at hv
      rw [if_pos rfl, if_pos h0] at hr
      injection hr with hr1 hr2
      subst hv hr1 hr2
      have HT : Hid (Td g w q s w2 q s x 0) := HT
      go_wp2_with fail
      refine (Ok_any g 0 true w2 rfl HT.out.wk.er).mono ?_
      rintro r w3 ⟨rfl, rfl⟩
      go_wp2_with (refine wp_storeF rfl 23 _ _ rfl g 1 _ rfl rfl rfl 62 _ HT.out.wk.bx 21 rfl (by decide) info1c ?_)
      intro w4 hg4 hw4
      have HG4 : Hid (Bx w4 g 62 (wdL { q with d := A1, dc := c1' } { s with data := s.data.take (n - 1) } x 0)) := Lib.hid (by
        have e : (wdL q s x 0).set 1 (.slice A1 (n - 1) c1') = wdL { q with d := A1, dc := c1' } { s with data := s.data.take (n - 1) } x 0 := by
          unfold wdL stL
          rw [show ({ s with data := s.data.take (n - 1) } : Ps).data.length = n - 1 from HLT.out]
          rfl
        rw [← e]
        exact hg4)
      have HW4 := Lib.hid (HG.out.trans hw4)
      have hne : ad.block ≠ g := by
        obtain ⟨a0, h1, h2⟩ := HA.out.2 ad HE0.out.2
        rw [h2]
        exact H.out.ls.data (by rw [HN.out]; exact h0) a0 h1
      have e4 : w4.cell? ad = some (.int .i64 (s.data.getD (n - 1) 0)) := HW4.out.cell HE0.out.1 (fun e => hne (by injection e))
      have HL4 := Lib.hid (take_lies (c1 := c1') (m := s.data.take (n - 1)) H.out.ls HA.out (fun h => by rw [HN.out]; exact h0))
      have HR4 : Hid (RdP w4 { q with d := A1, dc := c1' } { s with data := s.data.take (n - 1) }) := Lib.hid (((H.out.rd.below HB.out).withData HR1.out).grown HL4.out HW4.out (fun h => h rfl))
      have HGR := Lib.hid ((grown_of_below HB.out).trans HW4.out)
      obtain rfl := HE0.out.2
      clear hg4 hw4 hne
      go_wp2
      go_ret
      exact ⟨rfl, _, ⟨HG4.out, HR4.out, HL4.out⟩, fun S hS => (take_lies hS HA.out (fun _ => by rw [HN.out]; exact h0)).mono (fun b hb => .inl hb), HGR.out⟩
    · rw [if_neg (fun h => he h.1)] at hv
      rw [if_neg he] at hr
      injection hr with hr1 hr2
      subst hv hr1 hr2
      have HT2 : Hid (Td g w q s w2 q s x e) := Lib.hid (by have h := HT.out; rw [thr, if_neg he] at h; exact h)
      go_wp2_with fail
      refine (Ok_any g e false w2 (by simpa using he) HT2.out.wk.er).mono ?_
      rintro r w3 ⟨rfl, rfl⟩
      go_wp2
      go_ret
      exact ⟨rfl, q, HT2.out⟩
  · obtain ⟨p1, p2, p3⟩ := pop_none (l := s.data) (by omega)
    have HP1 := Lib.hid p1
    have HP2 := Lib.hid p2
    have HP3 := Lib.hid p3
    obtain ⟨hv2, hr1, hr2⟩ : v = 0 ∧ s' = s ∧ e' = thr e (-4) := by
      rw [if_neg (fun h => h0 h.2)] at hv
      unfold thr
      by_cases he : e = 0
      · rw [if_pos he, if_neg h0] at hr
        injection hr with hr1 hr2
        exact ⟨hv.symm, hr1.symm, by rw [if_pos he]; exact hr2.symm⟩
      · rw [if_neg he] at hr
        injection hr with hr1 hr2
        exact ⟨hv.symm, hr1.symm, by rw [if_neg he]; exact hr2.symm⟩
    have hne : thr e (-4) ≠ 0 := by
      unfold thr
      split
      · decide
      · assumption
    subst hv2 hr1 hr2
    have HNE := Lib.hid hne
    clear h hn p1 p2 p3 hr hv hne
    go_enter Tryz.func47, Tryz.ntmps47
    go_wp2_with fail
    refine (pop_is q.d q.dc n s'.data _ _ (-4) w HN.out HP1.out HP2.out HP3.out H.out.rd.data).mono ?_
    rintro r w1 ⟨A1, c1', A2, c2, _, rfl, _, _, hb⟩
    have HB := Lib.hid hb
    clear hb
    go_wp2_with fail
    refine (Fail_any g q s' x e (-4) w1 (H.out.below HB.out)).mono ?_
    rintro r w2 ⟨rfl, ht⟩
    have HT := Lib.hid (Td.of_below HB.out ht)
    clear ht
    go_wp2_with fail
    refine (Ok_any g (thr e (-4)) false w2 (by simpa using HNE.out) HT.out.wk.er).mono ?_
    rintro r w3 ⟨rfl, rfl⟩
    go_wp2
    go_ret
    exact ⟨rfl, q, HT.out⟩
end Go.Proofs.YtappfhjknihboaaGreatDoor


/- defs.work: give. -/
namespace Go.Proofs.YtappfhjknihboaaGreatDoor
open Go.RowKit

theorem push_is (A B : Option Addr) (c cb n : Nat) (depth : Int) (l : List Int) (v : Int) (r : List Int) (t : Int) (w : World) (hn : l.length = n) (hr : L04.pushR l [v] depth = r) (ht : L04.pushE n 1 depth = t) (hx : RdI w .i64 A c l) (hy : RdI w .i64 B cb [v]) (hl : n ≤ 1000000) :
    Calls Tryz.prog 108 #[.slice A n c, .int .i64 depth, .slice B 1 cb] w fun e w' => ∃ A' c', e = .returned (.tuple #[.slice A' r.length c', .int .i64 t]) ∧ RdI w' .i64 A' c' r ∧ (0 < r.length → ∀ ad, A' = some ad → w.heap.size ≤ ad.block) ∧ Below w.heap.size w w' := by
  subst hn hr
  refine (L04.Push_any A B c cb depth l [v] w hx hy (by simp; omega)).mono ?_
  rintro e w' ⟨x, rfl, ho, hb⟩
  obtain ⟨A', c', rfl, hr⟩ := Rd.own ho
  exact ⟨A', c', by rw [← ht]; rfl, hr, own_block_ge ho, hb⟩
theorem rd_one (w : World) (v : Int) : RdI (w.alloc (.cells #[.int .i64 v] 3)) .i64 (some ⟨w.heap.size, 0, none⟩) 1 [v] := rd_alloc w [.int .i64 v] #[.int .i64 v] 3 (0, 0) 1 1 1 rfl rfl (by decide) (by decide)

set_option maxRecDepth 100000 in
set_option maxHeartbeats 4000000 in
theorem Give_go (g : Nat) (q : Ad) (s : Ps) (x : Sx) (e : Int) (v : Int) (s' : Ps) (e' : Int) (w : World) (hr : giveD x (s, e) v = (s', e')) (h : Dk w g q s x e) (hl : s.data.length ≤ 1000000) :
    Calls Tryz.prog 63 #[.pointer (some ⟨g, 0, none⟩), .int .i64 v] w fun r w' => r = .returned (.tuple #[]) ∧ ∃ q', Td g w q s w' q' s' x e' := by
  have H := Lib.hid h
  have c1 := h.data
  have c18 := h.depth
  have hg := h.lt
  obtain ⟨n, hn⟩ : ∃ n, s.data.length = n := ⟨_, rfl⟩
  rw [hn] at c1 hl
  unfold giveD at hr
  simp only at hr
  rw [hn] at hr
  have HN := Lib.hid hn
  by_cases h0 : e = 0
  · subst h0
    rw [if_pos rfl] at hr
    obtain ⟨r1, hr1⟩ : ∃ r, L04.pushR s.data [v] x.depth = r := ⟨_, rfl⟩
    obtain ⟨t1, ht1⟩ : ∃ t, L04.pushE n 1 x.depth = t := ⟨_, rfl⟩
    have HR1 := Lib.hid hr1
    have HT1 := Lib.hid ht1
    have HR := Lib.hid hr
    clear h hn hr1 ht1 hr
    go_enter Tryz.func63, Tryz.ntmps63
    go_wp2_with fail
    refine (Ok_any g 0 true w rfl H.out.er).mono ?_
    rintro r w1 ⟨rfl, rfl⟩
    go_wp2_with fail
    go_region_law (first
      | (go_simp; go_at_call 108; refine (push_is q.d _ q.dc 1 n x.depth s.data v r1 t1 _ HN.out HR1.out HT1.out (H.out.rd.data.below (below_two (Below.refl _ _).drew (below_lit _ _))) (rd_one _ v) hl).mono ?_; rintro r w2 ⟨A', c', rfl, hrd, hnew, hb⟩; have hb2 : Below w.heap.size w w2 := below_two (below_two (Below.refl _ _).drew (below_lit _ _)) hb))
    all_goals
      have HB := Lib.hid hb2
      have HRD := Lib.hid hrd
      have HNW : Hid (0 < r1.length → ∀ ad, A' = some ad → w.heap.size ≤ ad.block) := Lib.hid (fun h0 ad e => by have h := hnew h0 ad e; simp at h; omega)
      clear hb hb2 hrd hnew c1 c18
      go_wp2_with fail
      refine (Fail_any g q s x 0 t1 w2 (H.out.below HB.out)).mono ?_
      rintro r w3 ⟨rfl, ht⟩
      have HT : Hid (Td g w q s w3 q s x t1) := Lib.hid (by have h := Td.of_below HB.out ht; rw [thr, if_pos rfl] at h; exact h)
      have HG := Lib.hid ht.gr
      clear ht
      by_cases hd : x.depth < n + 1
      · have ht1 := HT1.out
        unfold L04.pushE at ht1
        rw [if_pos (by omega)] at ht1
        subst ht1
        have hr := HR.out
        rw [if_pos hd] at hr
        injection hr with hr1 hr2
        subst hr1 hr2
        go_wp2_with fail
        refine (Ok_any g (-3) false w3 rfl HT.out.wk.er).mono ?_
        rintro r w4 ⟨rfl, rfl⟩
        go_wp2
        first | go_end0 | go_ret
        exact ⟨rfl, q, HT.out⟩
      · have ht1 := HT1.out
        unfold L04.pushE at ht1
        rw [if_neg (by omega)] at ht1
        subst ht1
        have hr := HR.out
        rw [if_neg hd] at hr
        injection hr with hr1 hr2
        subst hr1 hr2
        have hr1 : s.data ++ [v] = r1 := by
          have h := HR1.out
          unfold L04.pushR at h
          rw [if_pos (by unfold L04.pushE; rw [if_neg (by rw [HN.out]; show ¬ x.depth < (n : Int) + 1; omega)])] at h
          exact h
        have HR1 := Lib.hid hr1
        clear hr1
        go_wp2_with fail
        refine (Ok_any g 0 true w3 rfl HT.out.wk.er).mono ?_
        rintro r w4 ⟨rfl, rfl⟩
        go_wp2_with (refine wp_storeF rfl 23 _ _ rfl g 1 _ rfl rfl rfl 62 _ HT.out.wk.bx 21 rfl (by decide) info1c ?_)
        intro w5 hg5 hw5
        have HG5 : Hid (Bx w5 g 62 (wdL { q with d := A', dc := c' } { s with data := s.data ++ [v] } x 0)) := Lib.hid (by
          rw [HR1.out]
          exact hg5)
        have HW5 := Lib.hid (HG.out.trans hw5)
        have HL5 : ∀ S : Nat → Prop, Lies q s S → Lies { q with d := A', dc := c' } { s with data := s.data ++ [v] } (fun b => S b ∨ w.heap.size ≤ b) := fun S hS =>
          (hS.mono (fun b hb => Or.inl hb)).withData (fun h0 ad e => .inr (HNW.out (by rw [← HR1.out]; exact h0) ad e))
        have HL6 : Hid (Lies { q with d := A', dc := c' } { s with data := s.data ++ [v] } (fun b => b ≠ g)) := Lib.hid ((HL5 _ H.out.ls).mono (fun b hb => hb.elim id (fun h => by omega)))
        have HLL := Lib.hid HL5
        have HR5 : Hid (RdP w5 { q with d := A', dc := c' } { s with data := s.data ++ [v] }) := Lib.hid (((H.out.rd.below HB.out).withData (by rw [HR1.out]; exact HRD.out)).grown HL6.out HW5.out (fun h => h rfl))
        have HGR := Lib.hid ((grown_of_below HB.out).trans HW5.out)
        clear hg5 hw5 HL5
        go_wp2
        first | go_end0 | go_ret
        exact ⟨rfl, _, ⟨HG5.out, HR5.out, HL6.out⟩, HLL.out, HGR.out⟩
  · rw [if_neg h0] at hr
    injection hr with hr1 hr2
    subst hr1 hr2
    clear h
    go_enter Tryz.func63, Tryz.ntmps63
    go_wp2_with fail
    refine (Ok_any g e false w (by simpa using h0) H.out.er).mono ?_
    rintro r w1 ⟨rfl, rfl⟩
    go_wp2
    first | go_end0 | (refine bodyPost_ret (results_none rfl _ _ _) rfl ?_)
    exact ⟨rfl, q, Td.same H.out⟩
end Go.Proofs.YtappfhjknihboaaGreatDoor


/- Regions that draw their order, of a list of operations: facts over any ghost. No program in sight. -/
namespace Go.Proofs.YtappfhjknihboaaGreatDoor
open Go.RowKit

section
variable {P : Program} {l : List Oper} {Q : Exit → Act → World → Prop} {Γ : Type} {J : Γ → World → Prop} {E : Γ → World → Γ → World → Prop} {U : Nat → Γ → Prop} {a0 : Act}
/-- What an operation did. -/
def Did (E : Γ → World → Γ → World → Prop) (U : Nat → Γ → Prop) (γ : Γ) (w : World) (i : Nat) (v : Value) (w' : World) (F : Γ → Value → World → Prop) : Prop := ∃ γ', E γ w γ' w' ∧ (∀ j, j ≠ i → U j γ → U j γ') ∧ F γ' v w'
theorem wp_region_list {id : Nat} {w0 : World} (fs : List (Γ → Value → World → Prop)) (deps : Nat → List Nat) (ds : List (Option Tmp)) (hds : l.map (·.dst) = ds)
    (hm : P.follows .mixedOrders = true) (hpl : plainB l.toArray a0.tmps.size = true) (hdp : waitsB l.toArray deps = true) (γ0 : Γ) (hU : ∀ i, U i γ0) (hJ : J γ0 { w0 with drawn := w0.drawn + 1 })
    (hJE : ∀ γ w γ' w', J γ w → E γ w γ' w' → J γ' w')
    (hRE : ∀ i, i < l.length → ∀ γ v w γ' w', J γ w → (fs.getD i fun _ _ _ => True) γ v w → E γ w γ' w' → (fs.getD i fun _ _ _ => True) γ' v w')
    (hop : Hops (fun i o => ∀ a γ w, J γ w → U i γ → (∀ j ∈ deps i, ∃ v, (∀ k, dstOf l.toArray j = some k → a.eval (.tmp k) = v) ∧ (fs.getD j fun _ _ _ => True) γ v w) →
      (∀ k, (∀ j, j < l.length → dstOf l.toArray j ≠ some k) → a.eval (.tmp k) = a0.eval (.tmp k)) →
      o.wp P a w (fun a' w' => ∃ v, a' = a.put o.dst v ∧ Did E U γ w i v w' (fs.getD i fun _ _ _ => True)) Q) 0 l)
    (hfin : ∀ V γ w, J γ w → (∀ i, i < l.length → (fs.getD i fun _ _ _ => True) γ (V i) w) → Q .normal (putD V 0 ds a0) w) :
    (Code.region id l.toArray true).wp P Q a0 w0 :=
  wp_region_specs (R := fun i => fs.getD i fun _ _ _ => True) (J := J) (E := E) (U := U) (deps := deps) hm hpl hdp γ0 hU hJ hJE
    (fun i γ v w γ' w' hi hj h he => hRE i (by simpa using hi) γ v w γ' w' hj h he)
    (fun i o ho a γ w hj hu hd hf => by
      have h := hops_at l 0 hop i o (by simpa using ho)
      rw [Nat.zero_add] at h
      refine Oper.wp_mono ?_ (h a γ w hj hu hd (fun k hk => hf k (fun j hj' => hk j (by simpa using hj'))))
      rintro a' w' ⟨v, e, γ', he, hu', hF⟩
      exact ⟨v, γ', e, he, hu', hF⟩)
    (fun V γ w hj h => by
      have := hfin V γ w hj (fun i hi => h i (by simpa using hi))
      rw [← hds, ← putAll_eq l V l 0 a0 (fun i => by rw [Nat.zero_add])] at this
      rw [List.size_toArray, List.range_eq_range']
      exact this)
end
section
variable {P : Program} {o : Oper} {a : Act} {w : World} {K : Act → World → Prop} {Q : Exit → Act → World → Prop}
theorem rg_nil (x : Operand) (ho : o.op = .nilCheck x) (p : Addr) (hx : a.eval x = .pointer (some p)) (h : K (a.put o.dst (.pointer (some p))) w) : o.wp P a w K Q := by
  unfold Oper.wp execOp
  rw [ho]
  simp only [hx]
  exact h
theorem rg_field (s : TypeId) (x : Operand) (f : Nat) (ho : o.op = .fieldAddr s x f) (p r : Value) (hx : a.eval x = p) (hr : (Instr.fieldAt s p f).run P w = .ok r w) (h : K (a.put o.dst r) w) : o.wp P a w K Q := by
  unfold Oper.wp execOp
  rw [ho]
  simp only [hx, Sem.run_bind, hr, Sem.run_pure, Result.andThen_ok]
  exact h
theorem rg_loadv (t : TypeId) (x : Operand) (ho : o.op = .load t x) (p r : Value) (hx : a.eval x = p) (hr : (Instr.loadAt t p).run P w = .ok r w) (h : K (a.put o.dst r) w) : o.wp P a w K Q := by
  unfold Oper.wp execOp
  rw [ho]
  simp only [hx, Sem.run_bind, hr, Sem.run_pure, Result.andThen_ok]
  exact h
end
/-- Facts that hold whatever the world does. -/
theorem all_getD {α : Type} {p : α → Prop} {d : α} : ∀ {l : List α}, (∀ x ∈ l, p x) → p d → ∀ i, p (l.getD i d)
  | [], _, hd, _ => by simpa using hd
  | x :: l, h, hd, 0 => by simpa using h x (List.mem_cons_self ..)
  | x :: l, h, hd, i + 1 => by simpa using all_getD (fun y hy => h y (List.mem_cons_of_mem _ hy)) hd i
end Go.Proofs.YtappfhjknihboaaGreatDoor


/- defs.work: found, char. -/
namespace Go.Proofs.YtappfhjknihboaaGreatDoor
open Go.RowKit

theorem Dk.z15 {w : World} {g : Nat} {q : Ad} {s : Ps} {x : Sx} {e : Int} (h : Dk w g q s x e) :
    w.cell? ⟨g, 0, none⟩ = some (.slice q.m s.mem.length q.mc) ∧ w.cell? ⟨g, 1, none⟩ = some (.slice q.d s.data.length q.dc) ∧ w.cell? ⟨g, 2, none⟩ = some (.slice q.r s.ret.length q.rc) ∧ w.cell? ⟨g, 3, none⟩ = some (.slice q.c s.ctl.length q.cc) ∧ w.cell? ⟨g, 4, none⟩ = some (.slice q.w s.words.length q.wc) ∧ w.cell? ⟨g, 5, none⟩ = some (.slice q.s s.spots.length q.sc) ∧ w.cell? ⟨g, 6, none⟩ = some (.slice q.o s.out.length q.oc) ∧ w.cell? ⟨g, 7, none⟩ = some (.int .i64 s.ip) ∧ w.cell? ⟨g, 8, none⟩ = some (.int .i64 s.here) ∧ w.cell? ⟨g, 9, none⟩ = some (.int .i64 s.pos) ∧ w.cell? ⟨g, 10, none⟩ = some (.int .i64 s.tok) ∧ w.cell? ⟨g, 11, none⟩ = some (.int .i64 s.inp) ∧ w.cell? ⟨g, 12, none⟩ = some (.int .i64 s.err) ∧ w.cell? ⟨g, 13, none⟩ = some (.bool s.comp) ∧ w.cell? ⟨g, 14, none⟩ = some (.bool s.halt) :=
  ⟨h.bx.cell 0, h.bx.cell 1, h.bx.cell 2, h.bx.cell 3, h.bx.cell 4, h.bx.cell 5, h.bx.cell 6, h.bx.cell 7, h.bx.cell 8, h.bx.cell 9, h.bx.cell 10, h.bx.cell 11, h.bx.cell 12, h.bx.cell 13, h.bx.cell 14⟩

theorem Dk.load {w : World} {g : Nat} {q : Ad} {s : Ps} {x : Sx} {e : Int} (h : Dk w g q s x e) : (Instr.loadAt 28 (.pointer (some ⟨g, 0, none⟩))).run Tryz.prog w = .ok (stV q s) w :=
  run_loadAt_mid w g 0 28 (stL q s) _ h.range Tryz.underlying28 rfl infoSt
/-- The tables stand, and lie not in block g. -/
def TabG (g : Nat) (w : World) : Prop := ∃ W, Tab W ∧ Below W.heap.size W w ∧ W.heap.size ≤ g
theorem TabG.tab {g : Nat} {w : World} (h : TabG g w) : Tab w := by
  obtain ⟨W, h1, h2, _⟩ := h
  exact h1.below h2
theorem TabG.below {g : Nat} {w w' : World} (h : TabG g w) (hb : Below w.heap.size w w') : TabG g w' := by
  obtain ⟨W, h1, h2, h3⟩ := h
  exact ⟨W, h1, below_two h2 hb, h3⟩
theorem TabG.gr {g : Nat} {w w' : World} (h : TabG g w) (hg : w.grownBy w' (some g)) : TabG g w' := by
  obtain ⟨W, h1, h2, h3⟩ := h
  exact ⟨W, h1, below_grown h2 h2.size hg h3, h3⟩

/-- found: what it hands back, and leaves. -/
def foundD (x : Sx) (y : Ps × Int) : Ps × Int := ({ y.1 with pos := tokB x.src y.1.pos }, thr (nameD x y).2 (if foundI y.1 (tokS x y.1) then 0 else -13))
theorem thr_zero (e : Int) : thr e 0 = e := by
  unfold thr
  split
  · rename_i h
    rw [h]
  · rfl
theorem found_pos (s : Ps) (n : Int) (m : ByteArray) : foundC { s with pos := n } m = foundC s m ∧ foundN { s with pos := n } m = foundN s m ∧ foundI { s with pos := n } m = foundI s m := ⟨rfl, rfl, rfl⟩

set_option maxRecDepth 100000 in
set_option maxHeartbeats 4000000 in
theorem Found_go (g : Nat) (q : Ad) (s : Ps) (x : Sx) (e : Int) (c : Int) (now : Bool) (s' : Ps) (e' : Int) (w : World) (hr : foundD x (s, e) = (s', e')) (hc : foundC s (tokS x s) = c) (hnw : foundN s (tokS x s) = now) (h : Dk w g q s x e) (hx : x.src.size ≤ 200) (hwl : s.words.length ≤ 1000000) (hws : ∀ y ∈ s.words, y.nm.size ≤ 140737488355327) (ht : TabG g w) :
    Calls Tryz.prog 62 #[.pointer (some ⟨g, 0, none⟩)] w fun r w' => r = .returned (.tuple #[.int .i64 c, .bool now]) ∧ ∃ q', Td g w q s w' q' s' x e' := by
  have H := Lib.hid h
  have HT := Lib.hid ht
  have HWS := Lib.hid hws
  have HS := Lib.hid (tok_size x s hx)
  have hg := h.lt
  obtain ⟨is, hi⟩ : ∃ b, foundI s (tokS x s) = b := ⟨_, rfl⟩
  obtain ⟨e1, he1⟩ : ∃ e1, (nameD x (s, e)).2 = e1 := ⟨_, rfl⟩
  unfold foundD at hr
  simp only at hr
  rw [hi, he1] at hr
  injection hr with hr1 hr2
  have HR1 := Lib.hid hr1
  have HR2 := Lib.hid hr2
  have HN : Hid (nameD x (s, e) = ({ s with pos := (tokB x.src s.pos : Int) }, e1)) := Lib.hid (by rw [← he1]; rfl)
  have HC := Lib.hid hc
  have HNW := Lib.hid hnw
  have HI := Lib.hid hi
  have HGE : Hid (Dk w g q s x e) := H
  clear h ht hws hr1 hr2 he1 hc hnw hi
  have hfa : ∀ v : World, (Instr.fieldAt 62 (.pointer (some ⟨g, 0, none⟩)) 0).run Tryz.prog v = .ok (.pointer (some ⟨g, 0, none⟩)) v := fun v => by kernel_rfl
  go_enter Tryz.func62, Tryz.ntmps62
  go_upto_region 1 with fail
  go_cut [4, 5, 6] (fun a b k wx => a = .int .i64 c ∧ b = .bool now ∧ k = .bool is ∧ Hid (Td g w q s wx q { s with pos := (tokB x.src s.pos : Int) } x e1))
  case first =>
    refine wp_region_list (Γ := Bool) (J := fun γ v => if γ = true then Td g w q s v q { s with pos := (tokB x.src s.pos : Int) } x e1 else Below w.heap.size w v)
      (E := fun γ v γ' v' => (γ' = γ ∧ Below v.heap.size v v') ∨ (γ' = true ∧ Td g w q s v' q { s with pos := (tokB x.src s.pos : Int) } x e1))
      (U := fun i γ => i = 5 → γ = false)
      [fun _ v _ => v = .pointer (some ⟨g, 0, none⟩), fun _ v _ => v = .pointer (some ⟨g, 0, none⟩), fun _ v _ => v = .pointer (some ⟨g, 0, none⟩), fun _ v _ => v = stV q s ∨ v = stV q { s with pos := (tokB x.src s.pos : Int) },
       fun _ v _ => v = .pointer (some ⟨g, 0, none⟩), fun γ v _ => γ = true ∧ v = .string (tokS x s), fun _ v _ => v = .tuple #[.int .i64 c, .bool now, .bool is], fun _ v _ => v = .tuple #[.int .i64 c, .bool now, .bool is],
       fun _ v _ => v = .int .i64 c, fun _ v _ => v = .bool now, fun _ v _ => v = .bool is, fun _ v _ => v = .int .i64 c, fun _ v _ => v = .bool now, fun _ v _ => v = .bool is]
      (fun | 1 => [0] | 2 => [1] | 3 => [2] | 5 => [4] | 6 => [3, 5] | 7 => [6] | 8 => [7] | 9 => [7] | 10 => [7] | 11 => [8] | 12 => [9] | 13 => [10] | _ => [])
      _ rfl rfl (by kernel_rfl) (by kernel_rfl) false (fun _ _ => rfl) (by rw [if_neg (by decide)]; exact (Below.refl _ _).drew) ?_ ?_ ?_ ?_
    · rintro γ v γ' v' hj (⟨rfl, hb⟩ | ⟨rfl, ht⟩)
      · cases γ' with
        | true => rw [if_pos rfl] at hj ⊢; exact hj.then_below hb
        | false => rw [if_neg (by decide)] at hj ⊢; exact below_two hj hb
      · rw [if_pos rfl]
        exact ht
    · intro i hi γ v u γ' u' hj h he
      match i, hi, h with
      | 0, _, h => exact h
      | 1, _, h => exact h
      | 2, _, h => exact h
      | 3, _, h => exact h
      | 4, _, h => exact h
      | 5, _, h =>
        refine ⟨?_, h.2⟩
        rcases he with ⟨rfl, _⟩ | ⟨rfl, _⟩
        · exact h.1
        · rfl
      | 6, _, h => exact h
      | 7, _, h => exact h
      | 8, _, h => exact h
      | 9, _, h => exact h
      | 10, _, h => exact h
      | 11, _, h => exact h
      | 12, _, h => exact h
      | 13, _, h => exact h
      | n + 14, hi, _ => exact absurd hi (by simp)
    · have quiet : ∀ (γ : Bool) (v : World) (i : Nat) (r : Value) (F : Bool → Value → World → Prop), F γ r v → Did (fun γ v γ' v' => (γ' = γ ∧ Below v.heap.size v v') ∨ (γ' = true ∧ Td g w q s v' q { s with pos := (tokB x.src s.pos : Int) } x e1)) (fun i γ => i = 5 → γ = false) γ v i r v F :=
        fun γ v i r F h => ⟨γ, .inl ⟨rfl, Below.refl _ _⟩, fun _ _ h => h, h⟩
      have dk : ∀ (γ : Bool) (v : World), (if γ = true then Td g w q s v q { s with pos := (tokB x.src s.pos : Int) } x e1 else Below w.heap.size w v) → ∃ s2 e2, Dk v g q s2 x e2 ∧ (s2 = s ∨ s2 = { s with pos := (tokB x.src s.pos : Int) }) := by
        intro γ v hj
        cases γ with
        | true => rw [if_pos rfl] at hj; exact ⟨_, _, hj.wk, .inr rfl⟩
        | false => rw [if_neg (by decide)] at hj; exact ⟨_, _, H.out.below hj, .inl rfl⟩
      refine ⟨?_, ?_, ?_, ?_, ?_, ?_, ?_, ?_, ?_, ?_, ?_, ?_, ?_, ?_, trivial⟩
      · intro a γ v hj hu hd hf
        exact rg_move _ rfl _ (hf 0 (by decide)) ⟨_, rfl, quiet _ _ _ _ _ rfl⟩
      · intro a γ v hj hu hd hf
        obtain ⟨y, e, rfl⟩ := hd 0 (by simp)
        exact rg_nil _ rfl _ (e 8 rfl) ⟨_, rfl, quiet _ _ _ _ _ rfl⟩
      · intro a γ v hj hu hd hf
        obtain ⟨y, e, rfl⟩ := hd 1 (by simp)
        exact rg_field _ _ _ rfl _ _ (e 9 rfl) (hfa v) ⟨_, rfl, quiet _ _ _ _ _ rfl⟩
      · intro a γ v hj hu hd hf
        obtain ⟨y, e, rfl⟩ := hd 2 (by simp)
        obtain ⟨s2, e2, hk, h2⟩ := dk γ v hj
        exact rg_loadv _ _ rfl _ _ (e 10 rfl) hk.load ⟨_, rfl, quiet _ _ _ _ _ (h2.imp (fun h => by rw [h]) (fun h => by rw [h]))⟩
      · intro a γ v hj hu hd hf
        exact rg_move _ rfl _ (hf 0 (by decide)) ⟨_, rfl, quiet _ _ _ _ _ rfl⟩
      · intro a γ v hj hu hd hf
        obtain ⟨y, e, rfl⟩ := hd 4 (by simp)
        have hb : Below w.heap.size w v := by rw [hu rfl, if_neg (by decide)] at hj; exact hj
        refine rg_call 100 _ _ rfl #[.pointer (some ⟨g, 0, none⟩)] (by simp [e 12 rfl]) (by go_simp) _ (Name_go g q s x _ _ e1 v HN.out (H.out.below hb) hx) ?_
        rintro r u ⟨rfl, ht⟩
        exact ⟨_, rfl, _, rfl, true, .inr ⟨rfl, Td.of_below hb ht⟩, fun j hj h => fun e => absurd e hj, rfl, rfl⟩
      · intro a γ v hj hu hd hf
        obtain ⟨y3, e3, h3⟩ := hd 3 (by simp)
        obtain ⟨y5, e5, rfl, rfl⟩ := hd 5 (by simp)
        rw [if_pos rfl] at hj
        have hb : v.heap.size ≥ w.heap.size := hj.gr.size
        have hcall : ∀ s2, s2 = s ∨ s2 = { s with pos := (tokB x.src s.pos : Int) } → Calls Tryz.prog 13 #[stV q s2, .string (tokS x s)] v fun e w' => e = .returned (.tuple #[.int .i64 c, .bool now, .bool is]) ∧ Below v.heap.size v w' := by
          intro s2 h2
          have hrd : RdP v q s := hj.wk.rd.withPos s.pos
          rcases h2 with rfl | rfl
          · exact Found_any q s2 _ c now is v HC.out HNW.out HI.out hrd hwl HWS.out (by have := HS.out; omega) (HT.out.gr hj.gr).tab
          · exact Found_any q _ _ c now is v HC.out HNW.out HI.out hj.wk.rd hwl HWS.out (by have := HS.out; omega) (HT.out.gr hj.gr).tab
        have hv : a.eval (.tmp 11) = stV q s ∨ a.eval (.tmp 11) = stV q { s with pos := (tokB x.src s.pos : Int) } := by rw [e3 11 rfl]; exact h3
        rcases hv with hv | hv
        · refine rg_call 13 _ _ rfl #[stV q s, .string (tokS x s)] (by simp [hv, e5 13 rfl]) (by go_simp) _ (hcall _ (.inl rfl)) ?_
          rintro r u ⟨rfl, hb⟩
          exact ⟨_, rfl, _, rfl, true, .inl ⟨rfl, hb⟩, fun _ _ h => h, rfl⟩
        · refine rg_call 13 _ _ rfl #[stV q { s with pos := (tokB x.src s.pos : Int) }, .string (tokS x s)] (by simp [hv, e5 13 rfl]) (by go_simp) _ (hcall _ (.inr rfl)) ?_
          rintro r u ⟨rfl, hb⟩
          exact ⟨_, rfl, _, rfl, true, .inl ⟨rfl, hb⟩, fun _ _ h => h, rfl⟩
      · intro a γ v hj hu hd hf
        obtain ⟨y, e, rfl⟩ := hd 6 (by simp)
        exact rg_move _ rfl _ (e 14 rfl) ⟨_, rfl, quiet _ _ _ _ _ rfl⟩
      · intro a γ v hj hu hd hf
        obtain ⟨y, e, rfl⟩ := hd 7 (by simp)
        exact rg_extract _ _ rfl _ (e 7 rfl) _ rfl ⟨_, rfl, quiet _ _ _ _ _ rfl⟩
      · intro a γ v hj hu hd hf
        obtain ⟨y, e, rfl⟩ := hd 7 (by simp)
        exact rg_extract _ _ rfl _ (e 7 rfl) _ rfl ⟨_, rfl, quiet _ _ _ _ _ rfl⟩
      · intro a γ v hj hu hd hf
        obtain ⟨y, e, rfl⟩ := hd 7 (by simp)
        exact rg_extract _ _ rfl _ (e 7 rfl) _ rfl ⟨_, rfl, quiet _ _ _ _ _ rfl⟩
      · intro a γ v hj hu hd hf
        obtain ⟨y, e, rfl⟩ := hd 8 (by simp)
        exact rg_assign _ rfl _ (e 15 rfl) ⟨_, rfl, quiet _ _ _ _ _ rfl⟩
      · intro a γ v hj hu hd hf
        obtain ⟨y, e, rfl⟩ := hd 9 (by simp)
        exact rg_assign _ rfl _ (e 16 rfl) ⟨_, rfl, quiet _ _ _ _ _ rfl⟩
      · intro a γ v hj hu hd hf
        obtain ⟨y, e, rfl⟩ := hd 10 (by simp)
        exact rg_assign _ rfl _ (e 17 rfl) ⟨_, rfl, quiet _ _ _ _ _ rfl⟩
    · intro V γ v hj h
      obtain ⟨rfl, _⟩ := h 5 (by decide)
      rw [if_pos rfl] at hj
      have h11 : V 11 = .int .i64 c := h 11 (by decide)
      have h12 : V 12 = .bool now := h 12 (by decide)
      have h13 : V 13 = .bool is := h 13 (by decide)
      simp only [List.map_cons, List.map_nil, putD, Act.put, List.setIfInBounds_toArray, List.set_cons_succ, List.set_cons_zero, Nat.reduceAdd, Nat.zero_add, h11, h12, h13]
      go_wp2_with fail
      go_meet
      exact ⟨rfl, rfl, rfl, Lib.hid hj⟩
  case rest =>
    obtain ⟨rfl, rfl, rfl, HK⟩ := hcut
    obtain ⟨w1, hW⟩ : ∃ W, W = wc := ⟨_, rfl⟩
    subst hW
    have HR2 : Hid (thr e1 (if is = true then 0 else -13) = e') := Lib.hid HR2.out
    obtain rfl := HR1.out
    cases is with
    | true =>
      have he : e1 = e' := by
        have h := HR2.out
        rw [if_pos rfl, thr_zero] at h
        exact h
      subst he
      go_wp2
      go_ret2
      exact ⟨rfl, q, HK.out⟩
    | false =>
      have he : thr e1 (-13) = e' := by
        have h := HR2.out
        rw [if_neg (by decide)] at h
        exact h
      subst he
      go_wp2_with fail
      refine (Fail_any g q _ x e1 (-13) w1 HK.out.wk).mono ?_
      rintro r w2 ⟨rfl, ht⟩
      have HT2 := Lib.hid (HK.out.trans ht)
      clear ht
      go_wp2
      go_ret2
      exact ⟨rfl, q, HT2.out⟩

/-- char: the first byte of the next word. -/
def charV (x : Sx) (s : Ps) : Int := if (tokS x s).size = 0 then 0 else bt (tokS x s) 0
def charD (x : Sx) (y : Ps × Int) : Ps × Int := ({ y.1 with pos := tokB x.src y.1.pos }, if (tokS x y.1).size = 0 then thr y.2 (-16) else y.2)
theorem Char_go (g : Nat) (q : Ad) (s : Ps) (x : Sx) (e : Int) (v : Int) (s' : Ps) (e' : Int) (w : World) (hv : charV x s = v) (hr : charD x (s, e) = (s', e')) (h : Dk w g q s x e) (hx : x.src.size ≤ 200) :
    Calls Tryz.prog 69 #[.pointer (some ⟨g, 0, none⟩)] w fun r w' => r = .returned (.int .i64 v) ∧ ∃ q', Td g w q s w' q' s' x e' := by
  injection hr with h1 h2
  simp only at h1 h2
  subst h1
  have HS := Lib.hid (tok_size x s hx)
  have HC := Lib.hid (Token_go g q s x e w h hx)
  obtain ⟨t, ht⟩ : ∃ t, tokS x s = t := ⟨_, rfl⟩
  unfold charV at hv
  rw [ht] at hv h2
  have HV := Lib.hid hv
  have H2 := Lib.hid h2
  have HTT := Lib.hid ht
  clear h hv h2 ht
  go_enter Tryz.func69, Tryz.ntmps69
  go_wp2_with fail
  refine HC.out.mono ?_
  rw [HTT.out]
  rintro r w1 ⟨rfl, ht⟩
  have HT := Lib.hid ht
  have hsz := HS.out
  rw [HTT.out] at hsz
  clear ht HC
  by_cases h0 : t.size = 0
  · have hem : t.toList.isEmpty = true := by rw [toList_empty t]; simpa using h0
    have hv := HV.out
    have h2 := H2.out
    rw [if_pos h0] at hv h2
    subst hv h2
    go_wp2_with fail
    refine (Fail_any g q _ x e (-16) w1 HT.out.wk).mono ?_
    rintro r w2 ⟨rfl, ht⟩
    have HT2 := Lib.hid (HT.out.trans ht)
    clear ht
    go_wp2
    go_ret
    exact ⟨rfl, q, HT2.out⟩
  · have hem : t.toList.isEmpty = false := by rw [toList_empty t]; simpa using h0
    have hlt : 0 < t.size := Nat.pos_of_ne_zero h0
    have hgt := get_bt t 0 hlt
    have hr := bt_range t 0
    have hv := HV.out
    have h2 := H2.out
    rw [if_neg h0] at hv h2
    subst h2
    rw [hv] at hgt hr
    go_wp2
    go_ret
    exact ⟨rfl, q, HT.out⟩
end Go.Proofs.YtappfhjknihboaaGreatDoor


/- defs.work: last, with each of the two closures that it is given. -/
namespace Go.Proofs.YtappfhjknihboaaGreatDoor
open Go.RowKit

theorem RdP.withWords {w : World} {q : Ad} {s : Ps} (h : RdP w q s) {A : Option Addr} {c : Nat} {m : List Wd} (hr : RdE w encW 4 A c m) : RdP w { q with w := A, wc := c } { s with words := m } := ⟨h.mem, h.memB, h.data, h.ret, h.ctl, hr, h.spots, h.out, h.outB⟩
theorem Lies.withWords {q : Ad} {s : Ps} {S : Nat → Prop} (h : Lies q s S) {A : Option Addr} {c : Nat} {m : List Wd} (hr : 0 < m.length → ∀ ad, A = some ad → S ad.block) : Lies { q with w := A, wc := c } { s with words := m } S :=
  ⟨h.mem, h.data, h.ret, h.ctl, hr, h.spots, h.out⟩
/-- The last word, turned. -/
def turnL (f : Wd → Wd) (l : List Wd) : List Wd := l.dropLast ++ (l.getLast?.map f).toList
theorem turnL_snoc (f : Wd → Wd) (l : List Wd) (x : Wd) : turnL f (l ++ [x]) = l ++ [f x] := by simp [turnL]
theorem snoc_of {l : List Wd} (h : 0 < l.length) : ∃ l0 x, l = l0 ++ [x] := ⟨l.dropLast, l.getLast (by intro e; rw [e] at h; cases h), (List.dropLast_concat_getLast _).symm⟩
def hidF (x : Wd) : Wd := { x with hid := false }
def nowT (x : Wd) : Wd := { x with now := true }
theorem wcells_set (l : List Wd) (x : Wd) (k : Nat) (v : Value) (hk : k < 4) : (wcells (l ++ [x])).set (l.length * 4 + k) v = wcells l ++ (encW x).set k v := by
  have e : wcells (l ++ [x]) = wcells l ++ encW x := by simp [wcells]
  rw [e, List.set_append_right _ _ (by rw [wcells_len]; omega), wcells_len, show l.length * 4 + k - l.length * 4 = k by omega]
def lastD (f : Wd → Wd) (y : Ps × Int) : Ps × Int := if y.2 = 0 then ({ y.1 with words := turnL f y.1.words }, 0) else y

theorem SetHid_any (g i : Nat) (u : Value) (w : World) (h : w.cell? ⟨g, i + 3, none⟩ = some u) (hf : w.frozen? ⟨g, i + 3, none⟩ = false) :
    Calls Tryz.prog 103 #[.pointer (some ⟨g, i, none⟩)] w fun r w' => r = .returned (.tuple #[]) ∧ w' = w.setCell ⟨g, i + 3, none⟩ (.bool false) := by
  go_enter Tryz.func103, Tryz.ntmps103
  go_wp2
  first | go_end0 | go_ret
  exact ⟨rfl, rfl⟩
set_option maxRecDepth 100000 in
set_option maxHeartbeats 4000000 in
theorem LastHid_go (g : Nat) (q : Ad) (s : Ps) (x : Sx) (e : Int) (s' : Ps) (e' : Int) (w : World) (hr : lastD hidF (s, e) = (s', e')) (h : Dk w g q s x e) (hn : e = 0 → 0 < s.words.length) (hl : s.words.length ≤ 1000000) :
    Calls Tryz.prog 57 #[.pointer (some ⟨g, 0, none⟩), .func (.func 103) #[] #[]] w fun r w' => r = .returned (.tuple #[]) ∧ ∃ q', Td g w q s w' q' s' x e' := by
  have H := Lib.hid h
  have hg := h.lt
  by_cases h0 : e = 0
  · subst h0
    obtain ⟨l0, y, hsw⟩ := snoc_of (hn rfl)
    rw [lastD, if_pos rfl] at hr
    injection hr with hr1 hr2
    subst hr1 hr2
    have c4 := h.words
    obtain ⟨n, hnl⟩ : ∃ n, s.words.length = n := ⟨_, rfl⟩
    rw [hnl] at c4 hl
    have hn1 : n = l0.length + 1 := by rw [← hnl, hsw]; simp
    have HN := Lib.hid hnl
    have HSW := Lib.hid hsw
    have HN1 := Lib.hid hn1
    clear h hn hnl hsw hn1
    go_enter Tryz.func57, Tryz.ntmps57
    go_wp2_with fail
    refine (Ok_any g 0 true w rfl H.out.er).mono ?_
    rintro r w1 ⟨rfl, rfl⟩
    go_wp2_with fail
    have hcl := CloneW_any q.w q.wc s.words w H.out.rd.words (by rw [HN.out]; omega)
    rw [HN.out] at hcl
    refine hcl.mono ?_
    rintro r w1 ⟨v, rfl, ho, hb⟩
    have HO := Lib.hid ho
    have HB := Lib.hid hb
    obtain ⟨b, cap, hv, hb1, hb2, hnc, hcm⟩ := own_form ho (by rw [HN1.out]; omega)
    subst hv
    have HBB := Lib.hid (And.intro hb1 hb2)
    clear ho hb c4 hcl hb1 hb2
    go_wp2_with (refine wp_storeF rfl 25 _ _ rfl g 4 _ rfl rfl rfl 62 _ (H.out.below HB.out).bx 21 rfl (by decide) info1w ?_)
    intro w2 hg2 hw2
    have HG2 : Hid (Bx w2 g 62 ((wdL q s x 0).set 4 (.slice (some ⟨b, 0, none⟩) n cap))) := Lib.hid hg2
    have HW2 := Lib.hid hw2
    have HO2 : Hid (w2.ownsRow w.heap.size 47 4 (.slice (some ⟨b, 0, none⟩) n cap) n (wcells s.words)) := Lib.hid (own_keep HO.out hw2 hg)
    have z4 : w2.cell? ⟨g, 4, none⟩ = some (.slice (some ⟨b, 0, none⟩) n cap) := hg2.cell 4
    clear hg2 hw2
    obtain ⟨m, hm⟩ : ∃ m, l0.length = m := ⟨_, rfl⟩
    have HM := Lib.hid hm
    obtain rfl : n = m + 1 := by have := HN1.out; omega
    have u3 : w2.cell? ⟨b, m * 4 + 3, none⟩ = some (.bool y.hid) := by
      have hget : (wcells s.words)[m * 4 + 3]? = some (.bool y.hid) := by
        rw [HSW.out, show wcells (l0 ++ [y]) = wcells l0 ++ encW y by simp [wcells], List.getElem?_append_right (by rw [wcells_len, hm]; omega), wcells_len, hm, show m * 4 + 3 - m * 4 = 3 by omega]
        rfl
      have h := HO2.out.cells (g := b) rfl (m * 4 + 3) _ hget
      rw [Addr.add_lit, Nat.zero_add] at h
      exact h
    have hwm : IntKind.i64.wrap (m : Int) = m := IntWalk.i64_in _ (by omega)
    have hm0 : (0 : Int) ≤ m := by omega
    have hm1 : (m : Int) < m + 1 := by omega
    clear hm
    go_wp2_with fail
    go_region_law (first
      | (go_simp; go_at_call 103; refine (SetHid_any b (m * 4) _ w2.drew u3 (HO2.out.frozenAt _)).mono ?_; rintro r w3 ⟨rfl, rfl⟩))
    all_goals
      have hst := World.ownsRow.stored (w := w2.drew) (g := b) (cap := cap) HO2.out (m * 4 + 3) (.bool false)
      have HO3 : Hid ((w2.drew.setCell ⟨b, m * 4 + 3, none⟩ (.bool false)).ownsRow w.heap.size 47 4 (.slice (some ⟨b, 0, none⟩) (m + 1) cap) (m + 1) (wcells (turnL hidF s.words))) := Lib.hid (by
        have h := hst.1
        rw [HSW.out, show m * 4 + 3 = l0.length * 4 + 3 by rw [HM.out], wcells_set l0 y 3 _ (by decide), HM.out] at h
        rw [HSW.out, turnL_snoc, show wcells (l0 ++ [hidF y]) = wcells l0 ++ (encW y).set 3 (.bool false) by simp [wcells]; rfl]
        exact h)
      have HW3 : Hid (w2.grownBy (w2.drew.setCell ⟨b, m * 4 + 3, none⟩ (.bool false)) (some b)) := Lib.hid ⟨hst.2.os, hst.2.tape, hst.2.output, hst.2.size, hst.2.block⟩
      have HS3 := Lib.hid (HG2.out.grown HW3.out (fun e => by have := HBB.out.1; omega))
      have hlen : (turnL hidF s.words).length = m + 1 := by rw [HSW.out, turnL_snoc, List.length_append, HM.out]; rfl
      have HS4 : Hid (Bx (w2.drew.setCell ⟨b, m * 4 + 3, none⟩ (.bool false)) g 62 (wdL { q with w := some ⟨b, 0, none⟩, wc := cap } { s with words := turnL hidF s.words } x 0)) := Lib.hid (by
        have e : (wdL q s x 0).set 4 (.slice (some ⟨b, 0, none⟩) (m + 1) cap) = wdL { q with w := some ⟨b, 0, none⟩, wc := cap } { s with words := turnL hidF s.words } x 0 := by
          unfold wdL stL
          rw [show ({ s with words := turnL hidF s.words } : Ps).words.length = m + 1 from hlen]
          rfl
        rw [← e]
        exact HS3.out)
      have HR3 : Hid (RdE (w2.drew.setCell ⟨b, m * 4 + 3, none⟩ (.bool false)) encW 4 (some ⟨b, 0, none⟩) cap (turnL hidF s.words)) := Lib.hid (by
        have h := own_rd HO3.out
        show Rd _ _ (turnL hidF s.words).length cap 4 (wcells (turnL hidF s.words))
        rw [hlen]
        exact h)
      have HLW : ∀ S : Nat → Prop, Lies q s S → Lies { q with w := some ⟨b, 0, none⟩, wc := cap } { s with words := turnL hidF s.words } (fun c => S c ∨ w.heap.size ≤ c) := fun S hS =>
        (hS.mono (fun c hc => Or.inl hc)).withWords (fun _ ad e => .inr (by cases e; exact HBB.out.1))
      have HL4 : Hid (Lies { q with w := some ⟨b, 0, none⟩, wc := cap } { s with words := turnL hidF s.words } (fun c => c ≠ g)) := Lib.hid ((HLW _ H.out.ls).mono (fun c hc => hc.elim id (fun h => by omega)))
      have HLL := Lib.hid HLW
      have HW2' := HW2
      have HRQ : Hid (RdP (w2.drew.setCell ⟨b, m * 4 + 3, none⟩ (.bool false)) q s) := Lib.hid (((H.out.rd.below HB.out).grown H.out.ls HW2.out (fun h => h rfl)).grown H.out.rd.lies HW3.out (by have := HBB.out.1; omega))
      have HGR : Hid (w.grownBy (w2.drew.setCell ⟨b, m * 4 + 3, none⟩ (.bool false)) (some g)) := Lib.hid (by
        have h1 := (grown_of_below (g := g) HB.out).trans HW2.out
        exact ⟨by rw [HW3.out.os, h1.os], by rw [HW3.out.tape, h1.tape], by rw [HW3.out.output, h1.output], Nat.le_trans h1.size HW3.out.size, fun j hj hne => (HW3.out.block j (Nat.lt_of_lt_of_le hj h1.size) (fun e => by injection e with e; have := HBB.out.1; omega)).trans (h1.block j hj hne)⟩)
      clear hst HS3 hlen HLW
      go_wp2
      first | go_end0 | go_ret
      exact ⟨rfl, _, ⟨HS4.out, HRQ.out.withWords HR3.out, HL4.out⟩, HLL.out, HGR.out⟩
  · rw [lastD, if_neg h0] at hr
    injection hr with hr1 hr2
    subst hr1 hr2
    clear h
    go_enter Tryz.func57, Tryz.ntmps57
    go_wp2_with fail
    refine (Ok_any g e false w (by simpa using h0) H.out.er).mono ?_
    rintro r w1 ⟨rfl, rfl⟩
    go_wp2
    first | go_end0 | go_ret
    exact ⟨rfl, q, Td.same H.out⟩

theorem SetNow_any (g i : Nat) (u : Value) (w : World) (h : w.cell? ⟨g, i + 2, none⟩ = some u) (hf : w.frozen? ⟨g, i + 2, none⟩ = false) :
    Calls Tryz.prog 58 #[.pointer (some ⟨g, i, none⟩)] w fun r w' => r = .returned (.tuple #[]) ∧ w' = w.setCell ⟨g, i + 2, none⟩ (.bool true) := by
  go_enter Tryz.func58, Tryz.ntmps58
  go_wp2
  first | go_end0 | go_ret
  exact ⟨rfl, rfl⟩
set_option maxRecDepth 100000 in
set_option maxHeartbeats 4000000 in
theorem LastNow_go (g : Nat) (q : Ad) (s : Ps) (x : Sx) (e : Int) (s' : Ps) (e' : Int) (w : World) (hr : lastD nowT (s, e) = (s', e')) (h : Dk w g q s x e) (hn : e = 0 → 0 < s.words.length) (hl : s.words.length ≤ 1000000) :
    Calls Tryz.prog 57 #[.pointer (some ⟨g, 0, none⟩), .func (.func 58) #[] #[]] w fun r w' => r = .returned (.tuple #[]) ∧ ∃ q', Td g w q s w' q' s' x e' := by
  have H := Lib.hid h
  have hg := h.lt
  by_cases h0 : e = 0
  · subst h0
    obtain ⟨l0, y, hsw⟩ := snoc_of (hn rfl)
    rw [lastD, if_pos rfl] at hr
    injection hr with hr1 hr2
    subst hr1 hr2
    have c4 := h.words
    obtain ⟨n, hnl⟩ : ∃ n, s.words.length = n := ⟨_, rfl⟩
    rw [hnl] at c4 hl
    have hn1 : n = l0.length + 1 := by rw [← hnl, hsw]; simp
    have HN := Lib.hid hnl
    have HSW := Lib.hid hsw
    have HN1 := Lib.hid hn1
    clear h hn hnl hsw hn1
    go_enter Tryz.func57, Tryz.ntmps57
    go_wp2_with fail
    refine (Ok_any g 0 true w rfl H.out.er).mono ?_
    rintro r w1 ⟨rfl, rfl⟩
    go_wp2_with fail
    have hcl := CloneW_any q.w q.wc s.words w H.out.rd.words (by rw [HN.out]; omega)
    rw [HN.out] at hcl
    refine hcl.mono ?_
    rintro r w1 ⟨v, rfl, ho, hb⟩
    have HO := Lib.hid ho
    have HB := Lib.hid hb
    obtain ⟨b, cap, hv, hb1, hb2, hnc, hcm⟩ := own_form ho (by rw [HN1.out]; omega)
    subst hv
    have HBB := Lib.hid (And.intro hb1 hb2)
    clear ho hb c4 hcl hb1 hb2
    go_wp2_with (refine wp_storeF rfl 25 _ _ rfl g 4 _ rfl rfl rfl 62 _ (H.out.below HB.out).bx 21 rfl (by decide) info1w ?_)
    intro w2 hg2 hw2
    have HG2 : Hid (Bx w2 g 62 ((wdL q s x 0).set 4 (.slice (some ⟨b, 0, none⟩) n cap))) := Lib.hid hg2
    have HW2 := Lib.hid hw2
    have HO2 : Hid (w2.ownsRow w.heap.size 47 4 (.slice (some ⟨b, 0, none⟩) n cap) n (wcells s.words)) := Lib.hid (own_keep HO.out hw2 hg)
    have z4 : w2.cell? ⟨g, 4, none⟩ = some (.slice (some ⟨b, 0, none⟩) n cap) := hg2.cell 4
    clear hg2 hw2
    obtain ⟨m, hm⟩ : ∃ m, l0.length = m := ⟨_, rfl⟩
    have HM := Lib.hid hm
    obtain rfl : n = m + 1 := by have := HN1.out; omega
    have u2 : w2.cell? ⟨b, m * 4 + 2, none⟩ = some (.bool y.now) := by
      have hget : (wcells s.words)[m * 4 + 2]? = some (.bool y.now) := by
        rw [HSW.out, show wcells (l0 ++ [y]) = wcells l0 ++ encW y by simp [wcells], List.getElem?_append_right (by rw [wcells_len, hm]; omega), wcells_len, hm, show m * 4 + 2 - m * 4 = 2 by omega]
        rfl
      have h := HO2.out.cells (g := b) rfl (m * 4 + 2) _ hget
      rw [Addr.add_lit, Nat.zero_add] at h
      exact h
    have hwm : IntKind.i64.wrap (m : Int) = m := IntWalk.i64_in _ (by omega)
    have hm0 : (0 : Int) ≤ m := by omega
    have hm1 : (m : Int) < m + 1 := by omega
    clear hm
    go_wp2_with fail
    go_region_law (first
      | (go_simp; go_at_call 58; refine (SetNow_any b (m * 4) _ w2.drew u2 (HO2.out.frozenAt _)).mono ?_; rintro r w3 ⟨rfl, rfl⟩))
    all_goals
      have hst := World.ownsRow.stored (w := w2.drew) (g := b) (cap := cap) HO2.out (m * 4 + 2) (.bool true)
      have HO3 : Hid ((w2.drew.setCell ⟨b, m * 4 + 2, none⟩ (.bool true)).ownsRow w.heap.size 47 4 (.slice (some ⟨b, 0, none⟩) (m + 1) cap) (m + 1) (wcells (turnL nowT s.words))) := Lib.hid (by
        have h := hst.1
        rw [HSW.out, show m * 4 + 2 = l0.length * 4 + 2 by rw [HM.out], wcells_set l0 y 2 _ (by decide), HM.out] at h
        rw [HSW.out, turnL_snoc, show wcells (l0 ++ [nowT y]) = wcells l0 ++ (encW y).set 2 (.bool true) by simp [wcells]; rfl]
        exact h)
      have HW3 : Hid (w2.grownBy (w2.drew.setCell ⟨b, m * 4 + 2, none⟩ (.bool true)) (some b)) := Lib.hid ⟨hst.2.os, hst.2.tape, hst.2.output, hst.2.size, hst.2.block⟩
      have HS3 := Lib.hid (HG2.out.grown HW3.out (fun e => by have := HBB.out.1; omega))
      have hlen : (turnL nowT s.words).length = m + 1 := by rw [HSW.out, turnL_snoc, List.length_append, HM.out]; rfl
      have HS4 : Hid (Bx (w2.drew.setCell ⟨b, m * 4 + 2, none⟩ (.bool true)) g 62 (wdL { q with w := some ⟨b, 0, none⟩, wc := cap } { s with words := turnL nowT s.words } x 0)) := Lib.hid (by
        have e : (wdL q s x 0).set 4 (.slice (some ⟨b, 0, none⟩) (m + 1) cap) = wdL { q with w := some ⟨b, 0, none⟩, wc := cap } { s with words := turnL nowT s.words } x 0 := by
          unfold wdL stL
          rw [show ({ s with words := turnL nowT s.words } : Ps).words.length = m + 1 from hlen]
          rfl
        rw [← e]
        exact HS3.out)
      have HR3 : Hid (RdE (w2.drew.setCell ⟨b, m * 4 + 2, none⟩ (.bool true)) encW 4 (some ⟨b, 0, none⟩) cap (turnL nowT s.words)) := Lib.hid (by
        have h := own_rd HO3.out
        show Rd _ _ (turnL nowT s.words).length cap 4 (wcells (turnL nowT s.words))
        rw [hlen]
        exact h)
      have HLW : ∀ S : Nat → Prop, Lies q s S → Lies { q with w := some ⟨b, 0, none⟩, wc := cap } { s with words := turnL nowT s.words } (fun c => S c ∨ w.heap.size ≤ c) := fun S hS =>
        (hS.mono (fun c hc => Or.inl hc)).withWords (fun _ ad e => .inr (by cases e; exact HBB.out.1))
      have HL4 : Hid (Lies { q with w := some ⟨b, 0, none⟩, wc := cap } { s with words := turnL nowT s.words } (fun c => c ≠ g)) := Lib.hid ((HLW _ H.out.ls).mono (fun c hc => hc.elim id (fun h => by omega)))
      have HLL := Lib.hid HLW
      have HW2' := HW2
      have HRQ : Hid (RdP (w2.drew.setCell ⟨b, m * 4 + 2, none⟩ (.bool true)) q s) := Lib.hid (((H.out.rd.below HB.out).grown H.out.ls HW2.out (fun h => h rfl)).grown H.out.rd.lies HW3.out (by have := HBB.out.1; omega))
      have HGR : Hid (w.grownBy (w2.drew.setCell ⟨b, m * 4 + 2, none⟩ (.bool true)) (some g)) := Lib.hid (by
        have h1 := (grown_of_below (g := g) HB.out).trans HW2.out
        exact ⟨by rw [HW3.out.os, h1.os], by rw [HW3.out.tape, h1.tape], by rw [HW3.out.output, h1.output], Nat.le_trans h1.size HW3.out.size, fun j hj hne => (HW3.out.block j (Nat.lt_of_lt_of_le hj h1.size) (fun e => by injection e with e; have := HBB.out.1; omega)).trans (h1.block j hj hne)⟩)
      clear hst HS3 hlen HLW
      go_wp2
      first | go_end0 | go_ret
      exact ⟨rfl, _, ⟨HS4.out, HRQ.out.withWords HR3.out, HL4.out⟩, HLL.out, HGR.out⟩
  · rw [lastD, if_neg h0] at hr
    injection hr with hr1 hr2
    subst hr1 hr2
    clear h
    go_enter Tryz.func57, Tryz.ntmps57
    go_wp2_with fail
    refine (Ok_any g e false w (by simpa using h0) H.out.er).mono ?_
    rintro r w1 ⟨rfl, rfl⟩
    go_wp2
    first | go_end0 | go_ret
    exact ⟨rfl, q, Td.same H.out⟩
end Go.Proofs.YtappfhjknihboaaGreatDoor


/- defs.work: end. -/
namespace Go.Proofs.YtappfhjknihboaaGreatDoor
open Go.RowKit

theorem RdP.withComp {w : World} {q : Ad} {s : Ps} (h : RdP w q s) (b : Bool) : RdP w q { s with comp := b } := ⟨h.mem, h.memB, h.data, h.ret, h.ctl, h.words, h.spots, h.out, h.outB⟩
theorem Lies.withComp {q : Ad} {s : Ps} {S : Nat → Prop} (h : Lies q s S) (b : Bool) : Lies q { s with comp := b } S := ⟨h.mem, h.data, h.ret, h.ctl, h.words, h.spots, h.out⟩
theorem Td.comp {g : Nat} {w w1 w2 : World} {q q1 : Ad} {s s1 : Ps} {x : Sx} {e1 : Int} {b : Bool} (k : Td g w q s w1 q1 s1 x e1) (hg : Bx w2 g 62 (wdL q1 { s1 with comp := b } x e1)) (hw : w1.grownBy w2 (some g)) : Td g w q s w2 q1 { s1 with comp := b } x e1 :=
  ⟨⟨hg, (k.wk.rd.grown k.wk.ls hw (fun h => h rfl)).withComp b, k.wk.ls.withComp b⟩, fun S hS => (k.lies S hS).withComp b, k.gr.trans hw⟩
/-- What ; does not take. -/
def badE (s : Ps) : Bool := decide (0 < s.ctl.length) || (decide (s.words.length = 0) || !(s.words[s.words.length - 1]!).hid)
def endY (y : Ps × Int) : Ps × Int := if badE y.1 then (y.1, thr y.2 (-22)) else y
def endD (y : Ps × Int) : Ps × Int := ({ (lastD hidF (emitD (endY y) [1])).1 with comp := false }, (lastD hidF (emitD (endY y) [1])).2)
theorem emitD_no {s : Ps} {e : Int} (h : e ≠ 0) (l : List Int) : emitD (s, e) l = (s, e) := by rw [emitD, if_neg h]
theorem lastD_no {f : Wd → Wd} {s : Ps} {e : Int} (h : e ≠ 0) : lastD f (s, e) = (s, e) := by rw [lastD, if_neg h]
theorem emit_words : ∀ (l : List Int) (s : Ps), emitE s l = 0 → (emitS s l).words = s.words
  | [], s, _ => rfl
  | v :: r, s, h => by
    unfold emitE at h
    by_cases hc : commaE s = 0
    · rw [if_pos hc] at h
      rw [emitS, if_pos hc, emit_words r (layS s v) h, layS_rest hc]
    · rw [if_neg hc] at h
      exact absurd h hc

set_option maxRecDepth 100000 in
set_option maxHeartbeats 4000000 in
theorem End_go (g : Nat) (q : Ad) (s : Ps) (x : Sx) (e : Int) (s' : Ps) (e' : Int) (w : World) (hr : endD (s, e) = (s', e')) (h : Dk w g q s x e) (hm : s.mem.length ≤ 1000000) (hsp : s.spots.length ≤ 100000) (hl : s.words.length ≤ 1000000) :
    Calls Tryz.prog 45 #[.pointer (some ⟨g, 0, none⟩)] w fun r w' => r = .returned (.tuple #[]) ∧ ∃ q', Td g w q s w' q' s' x e' := by
  have H := Lib.hid h
  have HWL := Lib.hid hl
  have hg := h.lt
  have c3 := h.ctl
  have c4 := h.words
  have hle := h.rd.words.le
  have hcp := h.rd.words.cap
  unfold maxLen at hcp
  clear h
  cases hbad : badE s with
  | true =>
    obtain ⟨e1, he1⟩ : ∃ e1, thr e (-22) = e1 := ⟨_, rfl⟩
    have hne : e1 ≠ 0 := by
      rw [← he1]
      unfold thr
      split
      · decide
      · assumption
    have hy : endY (s, e) = (s, e1) := by rw [endY, if_pos hbad, he1]
    unfold endD at hr
    rw [hy, emitD_no hne, lastD_no hne] at hr
    injection hr with hr1 hr2
    subst hr1 hr2
    have HE1 := Lib.hid he1
    have HNE := Lib.hid hne
    have hcases : 0 < s.ctl.length ∨ (¬ 0 < s.ctl.length ∧ s.words.length = 0) ∨ (¬ 0 < s.ctl.length ∧ ¬ s.words.length = 0 ∧ (s.words[s.words.length - 1]!).hid = false) := by
      unfold badE at hbad
      simp only [Bool.or_eq_true, decide_eq_true_eq, Bool.not_eq_true'] at hbad
      by_cases h1 : 0 < s.ctl.length
      · exact .inl h1
      · by_cases h2 : s.words.length = 0
        · exact .inr (.inl ⟨h1, h2⟩)
        · exact .inr (.inr ⟨h1, h2, (hbad.resolve_left h1).resolve_left h2⟩)
    clear hne hy hbad he1
    rcases hcases with h1 | ⟨h1, h2⟩ | ⟨h1, h2, h3⟩
    · obtain ⟨nc, hnc⟩ : ∃ n, s.ctl.length = n := ⟨_, rfl⟩
      rw [hnc] at h1 c3
      clear hnc
      go_enter Tryz.func45, Tryz.ntmps45
      go_wp2_with fail
      refine (Fail_any g q s x e (-22) w H.out).mono ?_
      rintro r w1 ⟨rfl, ht⟩
      have HT : Hid (Td g w q s w1 q s x e1) := Lib.hid (by have h := ht; rw [HE1.out] at h; exact h)
      clear ht
      go_wp2_with fail
      refine (Emit_go g q s x e1 (some ⟨w1.heap.size, 0, none⟩) 1 1 [1] s e1 _ rfl (emitD_no HNE.out _) (HT.out.wk.below (below_lit _ _)) (rd_one w1 1) (by omega) (by omega)).mono ?_
      rintro r w2 ⟨rfl, q2, ht⟩
      have HT2 := Lib.hid (HT.out.trans (Td.of_below (below_lit _ _) ht))
      clear ht
      go_wp2_with fail
      refine (LastHid_go g q2 s x e1 s e1 w2 (lastD_no HNE.out) HT2.out.wk (fun h => absurd h HNE.out) HWL.out).mono ?_
      rintro r w3 ⟨rfl, q3, ht⟩
      have HT3 := Lib.hid (HT2.out.trans ht)
      clear ht
      go_wp2_with (refine wp_storeF rfl 4 _ _ rfl g 13 _ rfl rfl rfl 62 _ HT3.out.wk.bx 21 rfl (by decide) info1b ?_)
      intro w4 hg4 hw4
      have HT4 := Lib.hid (HT3.out.comp (b := false) hg4 hw4)
      clear hg4 hw4
      go_wp2
      first | go_end0 | go_ret
      exact ⟨rfl, q3, HT4.out⟩
    · obtain ⟨nc, hnc⟩ : ∃ n, s.ctl.length = n := ⟨_, rfl⟩
      rw [hnc] at h1 c3
      rw [h2] at c4
      clear hnc
      go_enter Tryz.func45, Tryz.ntmps45
      go_wp2_with fail
      refine (Fail_any g q s x e (-22) w H.out).mono ?_
      rintro r w1 ⟨rfl, ht⟩
      have HT : Hid (Td g w q s w1 q s x e1) := Lib.hid (by have h := ht; rw [HE1.out] at h; exact h)
      clear ht
      go_wp2_with fail
      refine (Emit_go g q s x e1 (some ⟨w1.heap.size, 0, none⟩) 1 1 [1] s e1 _ rfl (emitD_no HNE.out _) (HT.out.wk.below (below_lit _ _)) (rd_one w1 1) (by omega) (by omega)).mono ?_
      rintro r w2 ⟨rfl, q2, ht⟩
      have HT2 := Lib.hid (HT.out.trans (Td.of_below (below_lit _ _) ht))
      clear ht
      go_wp2_with fail
      refine (LastHid_go g q2 s x e1 s e1 w2 (lastD_no HNE.out) HT2.out.wk (fun h => absurd h HNE.out) HWL.out).mono ?_
      rintro r w3 ⟨rfl, q3, ht⟩
      have HT3 := Lib.hid (HT2.out.trans ht)
      clear ht
      go_wp2_with (refine wp_storeF rfl 4 _ _ rfl g 13 _ rfl rfl rfl 62 _ HT3.out.wk.bx 21 rfl (by decide) info1b ?_)
      intro w4 hg4 hw4
      have HT4 := Lib.hid (HT3.out.comp (b := false) hg4 hw4)
      clear hg4 hw4
      go_wp2
      first | go_end0 | go_ret
      exact ⟨rfl, q3, HT4.out⟩
    · obtain ⟨nc, hnc⟩ : ∃ n, s.ctl.length = n := ⟨_, rfl⟩
      rw [hnc] at h1 c3
      obtain ⟨m, hmm⟩ : ∃ m, s.words.length = m + 1 := ⟨s.words.length - 1, by omega⟩
      obtain ⟨ad, hA, hcw⟩ := RdE.all encW_len (by decide) H.out.rd.words (by omega)
      have hc3 := hcw.at' (show m < s.words.length by omega) 3 (by decide) (v := .bool false) (by rw [← h3, hmm, Nat.add_sub_cancel]; rfl)
      rw [hmm] at c4 h2 hl hle
      rw [hA] at c4
      clear hnc hA hcw h3
      go_enter Tryz.func45, Tryz.ntmps45
      go_wp2_with fail
      refine (Fail_any g q s x e (-22) w H.out).mono ?_
      rintro r w1 ⟨rfl, ht⟩
      have HT : Hid (Td g w q s w1 q s x e1) := Lib.hid (by have h := ht; rw [HE1.out] at h; exact h)
      clear ht
      go_wp2_with fail
      refine (Emit_go g q s x e1 (some ⟨w1.heap.size, 0, none⟩) 1 1 [1] s e1 _ rfl (emitD_no HNE.out _) (HT.out.wk.below (below_lit _ _)) (rd_one w1 1) (by omega) (by omega)).mono ?_
      rintro r w2 ⟨rfl, q2, ht⟩
      have HT2 := Lib.hid (HT.out.trans (Td.of_below (below_lit _ _) ht))
      clear ht
      go_wp2_with fail
      refine (LastHid_go g q2 s x e1 s e1 w2 (lastD_no HNE.out) HT2.out.wk (fun h => absurd h HNE.out) HWL.out).mono ?_
      rintro r w3 ⟨rfl, q3, ht⟩
      have HT3 := Lib.hid (HT2.out.trans ht)
      clear ht
      go_wp2_with (refine wp_storeF rfl 4 _ _ rfl g 13 _ rfl rfl rfl 62 _ HT3.out.wk.bx 21 rfl (by decide) info1b ?_)
      intro w4 hg4 hw4
      have HT4 := Lib.hid (HT3.out.comp (b := false) hg4 hw4)
      clear hg4 hw4
      go_wp2
      first | go_end0 | go_ret
      exact ⟨rfl, q3, HT4.out⟩
  | false =>
    obtain ⟨h1, h2, h3⟩ : ¬ 0 < s.ctl.length ∧ ¬ s.words.length = 0 ∧ (s.words[s.words.length - 1]!).hid = true := by
      unfold badE at hbad
      simp only [Bool.or_eq_false_iff, decide_eq_false_iff_not, Bool.not_eq_false'] at hbad
      exact ⟨hbad.1, hbad.2.1, hbad.2.2⟩
    have hy : endY (s, e) = (s, e) := by rw [endY, if_neg (by rw [hbad]; decide)]
    unfold endD at hr
    rw [hy] at hr
    obtain ⟨s2, e2, hem⟩ : ∃ a b, emitD (s, e) [1] = (a, b) := ⟨_, _, rfl⟩
    obtain ⟨s3, e3, hla⟩ : ∃ a b, lastD hidF (s2, e2) = (a, b) := ⟨_, _, rfl⟩
    rw [hem, hla] at hr
    injection hr with hr1 hr2
    subst hr1 hr2
    have hw2 : s2.words = s.words := by
      unfold emitD at hem
      simp only at hem
      by_cases he : e = 0
      · rw [if_pos he] at hem
        by_cases hz : emitE s [1] = 0
        · rw [if_pos hz] at hem
          injection hem with ha hb
          rw [← ha]
          exact emit_words [1] s hz
        · rw [if_neg hz] at hem
          injection hem with ha hb
          rw [← ha]
      · rw [if_neg he] at hem
        injection hem with ha hb
        rw [← ha]
    have HEM := Lib.hid hem
    have HLA := Lib.hid hla
    have HW2 : Hid (s2.words.length = s.words.length) := Lib.hid (by rw [hw2])
    clear hbad hy hem hla hw2
    obtain ⟨nc, hnc⟩ : ∃ n, s.ctl.length = n := ⟨_, rfl⟩
    rw [hnc] at h1 c3
    obtain ⟨m, hmm⟩ : ∃ m, s.words.length = m + 1 := ⟨s.words.length - 1, by omega⟩
    obtain ⟨ad, hA, hcw⟩ := RdE.all encW_len (by decide) H.out.rd.words (by omega)
    have hc3 := hcw.at' (show m < s.words.length by omega) 3 (by decide) (v := .bool true) (by rw [← h3, hmm, Nat.add_sub_cancel]; rfl)
    have HL2 : Hid (0 < s2.words.length ∧ s2.words.length ≤ 1000000) := Lib.hid (by rw [HW2.out]; omega)
    rw [hmm] at c4 h2 hl hle
    rw [hA] at c4
    clear hnc hA hcw h3
    go_enter Tryz.func45, Tryz.ntmps45
    go_wp2_with fail
    refine (Emit_go g q s x e (some ⟨w.heap.size, 0, none⟩) 1 1 [1] s2 e2 _ rfl HEM.out (H.out.below (below_lit _ _)) (rd_one w 1) (by omega) (by omega)).mono ?_
    rintro r w2 ⟨rfl, q2, ht⟩
    have HT2 := Lib.hid (Td.of_below (below_lit _ _) ht)
    clear ht
    go_wp2_with fail
    refine (LastHid_go g q2 s2 x e2 s3 e3 w2 HLA.out HT2.out.wk (fun _ => HL2.out.1) HL2.out.2).mono ?_
    rintro r w3 ⟨rfl, q3, ht⟩
    have HT3 := Lib.hid (HT2.out.trans ht)
    clear ht
    go_wp2_with (refine wp_storeF rfl 4 _ _ rfl g 13 _ rfl rfl rfl 62 _ HT3.out.wk.bx 21 rfl (by decide) info1b ?_)
    intro w4 hg4 hw4
    have HT4 := Lib.hid (HT3.out.comp (b := false) hg4 hw4)
    clear hg4 hw4
    go_wp2
    first | go_end0 | go_ret
    exact ⟨rfl, q3, HT4.out⟩
end Go.Proofs.YtappfhjknihboaaGreatDoor


/- defs.work: create. -/
namespace Go.Proofs.YtappfhjknihboaaGreatDoor
open Go.RowKit

theorem rg_appG {P : Program} {o : Oper} {a : Act} {w : World} {K : Act → World → Prop} {Q : Exit → Act → World → Prop} (s x : Operand) (t e : TypeId) (z : Value) (size bytes : Nat)
    (ho : o.op = .call { callee := .builtin .append, args := #[s, x], argTypes := #[t, t] }) (ht : P.underlying t = some (.slice e))
    (hinfo : (P.info? e).map (fun i => (i.zero, i.size, i.bytes)) = some (some z, size, bytes)) (hzs : z.cells.size = size) (hsz : 0 < size) (hb0 : 0 < bytes)
    (A : Option Addr) (n : Nat) (olds : List Value) (hs : a.eval s = .slice A n n) (hrd : Rd w A n n size olds)
    (X : Option Addr) (m c : Nat) (news : List Value) (hx : a.eval x = .slice X m c) (hrx : Rd w X m c size news) (hm : 0 < m) (h1 : ∀ u ∈ news, u.oneCell' = true)
    (hbytes : (n + m) * bytes ≤ 140737488355328)
    (h : ∀ A' c' w', w'.ownsRow w.heap.size e size (.slice A' (n + m) c') (n + m) (olds ++ news) → Below w.heap.size w w' → K (a.put o.dst (.slice A' (n + m) c')) w') : o.wp P a w K Q := by
  obtain ⟨i0, hi, hzz⟩ := Option.map_eq_some_iff.1 hinfo
  simp only [Prod.mk.injEq] at hzz
  obtain ⟨hz0, hz1, hz2⟩ := hzz
  have hnm : n + m ≤ 140737488355328 := Nat.le_trans (Nat.le_mul_of_pos_right _ hb0) hbytes
  obtain ⟨ad, rfl, _⟩ := hrx.cell 0 _ (List.getElem?_eq_getElem (by rw [hrx.len]; exact Nat.mul_pos hm hsz))
  have hcx : ∀ j u, news[j]? = some u → w.cell? (ad.add j) = some u := fun j u hj => by
    obtain ⟨ad', e1, hc⟩ := hrx.cell j u hj
    cases e1
    exact hc
  have fin : ∀ v' w', (Builtin.append_ #[t, t] o.type #[.slice A n n, .slice (some ad) m c]).run P w = .ok v' w' → w'.ownsRow w.heap.size e size v' (n + m) (olds ++ news) → w.grownBy w' none → o.wp P a w K Q := by
    intro v' w' hrun r1 r2
    obtain ⟨A', c', rfl, _⟩ := Rd.own r1
    have := h A' c' w' r1 (below_of_grown r2)
    unfold Oper.wp
    simp [execOp, ho, resolve, invoke, builtin, hs, hx, hrun, Result.andThen]
    exact this
  cases A with
  | some b =>
    obtain ⟨v', w', hrun, r1, r2⟩ := run_append_arg_grows (P := P) w t o.type e i0 z size bytes ht hi hz0 hz1 hz2 hzs hsz b n n olds hrd.len (fun j u hj => by
      obtain ⟨ad', e1, hc⟩ := hrd.cell j u hj
      cases e1
      exact hc) ad m c news hrx.len hcx (by omega) (by simp only [maxLen]; omega) hbytes
    exact fin v' w' hrun r1 r2
  | none =>
    have hn0 := hrd.nil rfl
    subst hn0
    obtain rfl : olds = [] := List.eq_nil_of_length_eq_zero (by simpa using hrd.len)
    obtain ⟨v', w', hrun, r1, r2, _⟩ := run_append_own (P := P) w w.heap.size t o.type e i0 z size bytes ht hi hz0 hz1 hz2 hzs hsz (.slice none 0 0) 0 [] (World.ownsRow_nil w _ e size) ad m c news hrx.len hcx h1 (by simp only [maxLen]; omega) hbytes (Nat.le_refl _)
    exact fin v' w' hrun r1 r2

def upD (y : Ps × Int) : Ps × Int := ({ y.1 with here := upR y.1.here }, if y.2 = 0 ∧ 256 ≤ y.1.words.length then -8 else y.2)
def newW (s : Ps) (n : ByteArray) (hid : Bool) : Ps := { s with words := s.words ++ [⟨foldB n, s.here, false, hid⟩] }
def makeD (n : ByteArray) (hid : Bool) (code : List Int) (y : Ps × Int) : Ps × Int := if y.2 = 0 then emitD (newW y.1 n hid, 0) code else y
def createD (x : Sx) (hid : Bool) (code : List Int) (y : Ps × Int) : Ps × Int := makeD (tokS x y.1) hid code (upD (nameD x y))
theorem RdP.withHere' {w : World} {q : Ad} {s : Ps} (h : RdP w q s) (n : Int) : RdP w q { s with here := n } := h.withHere n
theorem Lies.withHere {q : Ad} {s : Ps} {S : Nat → Prop} (h : Lies q s S) (n : Int) : Lies q { s with here := n } S := ⟨h.mem, h.data, h.ret, h.ctl, h.words, h.spots, h.out⟩
theorem Td.here {g : Nat} {w w1 w2 : World} {q q1 : Ad} {s s1 : Ps} {x : Sx} {e1 : Int} {n : Int} (k : Td g w q s w1 q1 s1 x e1) (hg : Bx w2 g 62 (wdL q1 { s1 with here := n } x e1)) (hw : w1.grownBy w2 (some g)) : Td g w q s w2 q1 { s1 with here := n } x e1 :=
  ⟨⟨hg, (k.wk.rd.grown k.wk.ls hw (fun h => h rfl)).withHere n, k.wk.ls.withHere n⟩, fun S hS => (k.lies S hS).withHere n, k.gr.trans hw⟩

theorem rg_storeF {P : Program} {o : Oper} {a : Act} {w : World} {K : Act → World → Prop} {Q : Exit → Act → World → Prop} (ty : TypeId) (x y : Operand) (ho : o.op = .store ty x y)
    (g k : Nat) (v : Value) (hx : a.eval x = .pointer (some ⟨g, k, none⟩)) (hy : a.eval y = v) (h1 : v.oneCell' = true)
    (t : TypeId) (cs : List Value) (hg : Bx w g t cs) (m : Nat) (hm : cs.length = m) (hkm : k < m) (hi : (P.info? ty).map (·.size) = some 1)
    (h : ∀ w', Bx w' g t (cs.set k v) → w.grownBy w' (some g) → K (a.put o.dst undef) w') : o.wp P a w K Q := by
  have hk : k < cs.length := by omega
  have hb : Bx (w.setCell ⟨g, k, none⟩ v) g t (cs.set k v) := by
    have := heap_setCell_same w g k cs.toArray t v hg
    rw [List.setIfInBounds_toArray] at this
    exact this
  have hc : w.cell? ⟨g, k, none⟩ = some cs[k] := by rw [hg.cell k, List.getElem?_eq_getElem hk]
  have hrun : (Instr.storeAt ty (.pointer (some ⟨g, k, none⟩)) v).run P w = .ok () (w.setCell ⟨g, k, none⟩ v) := by
    cases hq : P.info? ty with
    | none => rw [hq] at hi; cases hi
    | some i =>
      have hs : i.size = 1 := by rw [hq] at hi; simpa using hi
      have hst := run_store P w ⟨g, k, none⟩ v .plain h1
      have hv : v.cells = #[v] := by cases v <;> first | rfl | (simp [Value.oneCell'] at h1)
      have ha : (⟨g, k, none⟩ : Addr).add 0 = ⟨g, k, none⟩ := rfl
      simp only [Instr.storeAt, Instr.sureAddr, Sem.run_bind, Sem.run_pure, Result.andThen_ok, storeVar, sizeOf, typeInfo]
      simp [hq, hs, hv, storeCells, ha, hst, hc, hg.free k]
  unfold Oper.wp execOp
  simp only [ho, hx, hy, Sem.run_bind, hrun, Sem.run_pure, Result.andThen_ok]
  exact h _ hb (grown_setCell w g k v)
theorem ld_words (p : Addr) (A : Option Addr) (n c : Nat) (w : World) (h : w.cell? p = some (.slice A n c)) : (Instr.loadAt 25 (.pointer (some p))).run Tryz.prog w = .ok (.slice A n c) w := by
  go_simp
theorem ld_int (p : Addr) (n : Int) (w : World) (h : w.cell? p = some (.int .i64 n)) : (Instr.loadAt 3 (.pointer (some p))).run Tryz.prog w = .ok (.int .i64 n) w := by
  go_simp
theorem bw_run (f : ByteArray) (u : Int) (b : Bool) (w : World) : (Instr.build 47 #[(0, .string f), (1, .int .i64 u), (3, .bool b)]).run Tryz.prog w = .ok (.agg #[.string f, .int .i64 u, .bool false, .bool b]) w := by kernel_rfl
theorem bs_run (f : ByteArray) (u : Int) (b : Bool) (w : World) : (Instr.buildSlice 25 1 #[(0, .agg #[.string f, .int .i64 u, .bool false, .bool b])]).run Tryz.prog w = .ok (.slice (some ⟨w.heap.size, 0, none⟩) 1 1) (w.alloc (.cells #[.string f, .int .i64 u, .bool false, .bool b] 47 (0, 0))) := by
  go_simp

set_option maxRecDepth 100000 in
set_option maxHeartbeats 4000000 in
theorem Create_go (g : Nat) (q : Ad) (s : Ps) (x : Sx) (e : Int) (hid : Bool) (A : Option Addr) (c n : Nat) (code : List Int) (s' : Ps) (e' : Int) (w : World) (hn : code.length = n) (hr : createD x hid code (s, e) = (s', e')) (h : Dk w g q s x e) (hx : RdI w .i64 A c code) (hA : ∀ ad, A = some ad → ad.block ≠ g) (hsz : x.src.size ≤ 200)
    (hm : s.mem.length ≤ 1000000) (hsp : s.spots.length ≤ 100000) (hl : s.words.length ≤ 1000000) (hn2 : n ≤ 1000) :
    Calls Tryz.prog 44 #[.pointer (some ⟨g, 0, none⟩), .bool hid, .slice A n c] w fun r w' => r = .returned (.tuple #[]) ∧ ∃ q', Td g w q s w' q' s' x e' := by
  have HX := Lib.hid hx
  have HAA := Lib.hid hA
  have HN := Lib.hid hn
  have HTS := Lib.hid (tok_size x s hsz)
  obtain ⟨s1, e1, hnd⟩ : ∃ a b, nameD x (s, e) = (a, b) := ⟨_, _, rfl⟩
  have HNG := Lib.hid (Name_go g q s x e s1 e1 w hnd h hsz)
  have hs1 : s1 = { s with pos := (tokB x.src s.pos : Int) } := by injection hnd with h1 h2; exact h1.symm
  obtain ⟨tok, htok⟩ : ∃ t, tokS x s = t := ⟨_, rfl⟩
  unfold createD at hr
  rw [hnd, htok] at hr
  rw [htok] at HNG HTS
  have hw1 : s1.words = s.words := by rw [hs1]
  have hm1 : s1.mem = s.mem := by rw [hs1]
  have hp1 : s1.spots = s.spots := by rw [hs1]
  have HF := Lib.hid (And.intro hw1 (And.intro hm1 hp1))
  have hg := h.lt
  obtain ⟨up, hup⟩ : ∃ u, upR s1.here = u := ⟨_, rfl⟩
  have HUP := Lib.hid hup
  have HR := Lib.hid hr
  clear h hx hA hn hnd hs1 hw1 hm1 hp1 hup hr htok
  go_enter Tryz.func44, Tryz.ntmps44
  go_wp2_with fail
  refine HNG.out.mono ?_
  rintro r w1 ⟨rfl, ht⟩
  have HT := Lib.hid ht
  have c8 := ht.wk.here
  clear ht HNG
  go_wp2_with fail
  refine (Up_any s1.here up w1 HUP.out).mono ?_
  rintro r w2 ⟨rfl, rfl⟩
  go_wp2_with (refine wp_storeF rfl 3 _ _ rfl g 8 _ rfl rfl rfl 62 _ HT.out.wk.bx 21 rfl (by decide) info1i ?_)
  intro w2 hg2 hw2
  have HT2 := Lib.hid (HT.out.here (n := up) hg2 hw2)
  clear hg2 hw2 c8
  obtain ⟨s2, hs2⟩ : ∃ a : Ps, { s1 with here := up } = a := ⟨_, rfl⟩
  have HT3 : Hid (Td g w q s w2 q s2 x e1) := Lib.hid (by rw [← hs2]; exact HT2.out)
  have HS2 : Hid (s2.words = s.words ∧ s2.mem = s.mem ∧ s2.spots = s.spots ∧ s2.here = up) := Lib.hid (by rw [← hs2]; exact ⟨HF.out.1, HF.out.2.1, HF.out.2.2, rfl⟩)
  have HR2 : Hid (makeD tok hid code (s2, if e1 = 0 ∧ 256 ≤ s2.words.length then -8 else e1) = (s', e')) := Lib.hid (by
    have h := HR.out
    unfold upD at h
    simp only [HUP.out] at h
    rw [← hs2]
    exact h)
  clear HT2 HT HR HUP HF hs2
  by_cases h0 : e1 = 0
  · subst h0
    obtain ⟨L, hL⟩ : ∃ L, s2.words.length = L := ⟨_, rfl⟩
    have HL := Lib.hid hL
    have c4 := HT3.out.wk.words
    have hLb : L ≤ 1000000 := by rw [← hL, HS2.out.1]; exact hl
    rw [hL] at c4
    clear hL hl
    by_cases h256 : 256 ≤ L
    · have hr2 := HR2.out
      rw [if_pos ⟨rfl, by rw [HL.out]; exact h256⟩, makeD, if_neg (show ¬ (-8 : Int) = 0 by decide)] at hr2
      injection hr2 with ha hb
      subst ha hb
      have h256' : (256 : Int) ≤ L := by omega
      clear HR2
      go_wp2_with fail
      refine (Ok_any g 0 true w2 rfl HT3.out.wk.er).mono ?_
      rintro r w3 ⟨rfl, rfl⟩
      go_wp2_with fail
      refine (Fail_any g q s2 x 0 (-8) w2 HT3.out.wk).mono ?_
      rintro r w3 ⟨rfl, ht⟩
      have HT4 : Hid (Td g w q s w3 q s2 x (-8)) := Lib.hid (HT3.out.trans ht)
      clear ht
      go_wp2_with fail
      refine (Ok_any g (-8) false w3 rfl HT4.out.wk.er).mono ?_
      rintro r w4 ⟨rfl, rfl⟩
      go_wp2
      first | go_end0 | go_ret
      exact ⟨rfl, q, HT4.out⟩
    · have hr2 := HR2.out
      rw [if_neg (fun h => h256 (by rw [← HL.out]; exact h.2)), makeD, if_pos rfl] at hr2
      have HR3 := Lib.hid hr2
      have h256' : ¬ (256 : Int) ≤ L := by omega
      clear HR2 hr2
      go_wp2_with fail
      refine (Ok_any g 0 true w2 rfl HT3.out.wk.er).mono ?_
      rintro r w3 ⟨rfl, rfl⟩
      go_wp2_with fail
      refine (Ok_any g 0 true w2 rfl HT3.out.wk.er).mono ?_
      rintro r w3 ⟨rfl, rfl⟩
      go_upto_region 5 with fail
      obtain ⟨y, hy⟩ : ∃ y : Wd, (⟨foldB tok, up, false, hid⟩ : Wd) = y := ⟨_, rfl⟩
      obtain ⟨s3, hs3⟩ : ∃ a, newW s2 tok hid = a := ⟨_, rfl⟩
      have HR4 : Hid (emitD (s3, 0) code = (s', e')) := Lib.hid (by rw [← hs3]; exact HR3.out)
      have HS3 : Hid (s3 = { s2 with words := s2.words ++ [y] }) := Lib.hid (by rw [← hs3, ← hy, newW, HS2.out.2.2.2])
      have HY : Hid (encW y = [.string (foldB tok), .int .i64 up, .bool false, .bool hid]) := Lib.hid (by rw [← hy]; rfl)
      clear HR3 hs3 hy
      have hgw : g < w2.heap.size := HT3.out.wk.lt
      have hrd : ∀ v : World, w2.grownBy v (some g) → RdP v q s2 := fun v h => HT3.out.wk.rd.grown HT3.out.wk.ls h (fun h => h rfl)
      have hfa : ∀ v : World, (Instr.fieldAt 62 (.pointer (some ⟨g, 0, none⟩)) 0).run Tryz.prog v = .ok (.pointer (some ⟨g, 0, none⟩)) v := fun v => by kernel_rfl
      have hf4 : ∀ v : World, (Instr.fieldAt 28 (.pointer (some ⟨g, 0, none⟩)) 4).run Tryz.prog v = .ok (.pointer (some ⟨g, 4, none⟩)) v := fun v => by kernel_rfl
      have hf8 : ∀ v : World, (Instr.fieldAt 28 (.pointer (some ⟨g, 0, none⟩)) 8).run Tryz.prog v = .ok (.pointer (some ⟨g, 8, none⟩)) v := fun v => by kernel_rfl
      obtain ⟨J, hJ⟩ : ∃ J : Bool × Bool → World → Prop, J = fun γ v => (γ.2 = true → γ.1 = true) ∧ w2.grownBy v (some g) ∧ (γ.2 = false → Below w2.heap.size w2 v) ∧ (γ.2 = true → ∃ q', Td g w2 q s2 v q' s3 x 0) := ⟨_, rfl⟩
      obtain ⟨E, hE⟩ : ∃ E : Bool × Bool → World → Bool × Bool → World → Prop, E = fun γ v γ' v' => (γ.1 = true → γ'.1 = true) ∧ (γ.2 = true → γ'.2 = true) ∧ v.grownBy v' (some g) ∧ J γ' v' := ⟨_, rfl⟩
      obtain ⟨U, hU⟩ : ∃ U : Nat → Bool × Bool → Prop, U = fun i γ => (i = 5 → γ.1 = false) ∧ (i = 21 → γ.2 = false) := ⟨_, rfl⟩
      have quiet : ∀ (γ : Bool × Bool) (v : World) (i : Nat) (r : Value) (F : Bool × Bool → Value → World → Prop), J γ v → F γ r v → Did E U γ v i r v F :=
        fun γ v i r F hj h => ⟨γ, by rw [hE]; exact ⟨id, id, World.grownBy.refl _ _, hj⟩, fun _ _ h => h, h⟩
      have below : ∀ (γ : Bool × Bool) (v v' : World) (i : Nat) (r : Value) (F : Bool × Bool → Value → World → Prop), J γ v → Below v.heap.size v v' → F γ r v' → Did E U γ v i r v' F := by
        intro γ v v' i r F hj hb h
        refine ⟨γ, ?_, fun _ _ h => h, h⟩
        rw [hJ] at hj
        rw [hE]
        refine ⟨id, id, grown_of_below hb, ?_⟩
        rw [hJ]
        exact ⟨hj.1, hj.2.1.trans (grown_of_below hb), fun h => below_two (hj.2.2.1 h) hb, fun h => by obtain ⟨q', ht⟩ := hj.2.2.2 h; exact ⟨q', ht.then_below hb⟩⟩
      refine wp_region_list (Γ := Bool × Bool) (J := J) (E := E) (U := U)
        [fun _ v _ => v = .pointer (some ⟨g, 0, none⟩), fun _ v _ => v = .pointer (some ⟨g, 0, none⟩), fun _ v _ => v = .pointer (some ⟨g, 0, none⟩), fun _ v _ => v = .pointer (some ⟨g, 0, none⟩), fun _ v _ => v = .pointer (some ⟨g, 4, none⟩),
         fun γ v _ => γ.1 = true ∧ v = .slice q.w L q.wc, fun γ v _ => γ.1 = true ∧ v = .slice q.w L L, fun _ v _ => v = .string tok, fun _ v _ => v = .string (foldB tok),
         fun _ v _ => v = .pointer (some ⟨g, 0, none⟩), fun _ v _ => v = .pointer (some ⟨g, 0, none⟩), fun _ v _ => v = .pointer (some ⟨g, 0, none⟩), fun _ v _ => v = .pointer (some ⟨g, 8, none⟩), fun _ v _ => v = .int .i64 up, fun _ v _ => v = .bool hid,
         fun _ v _ => v = .agg #[.string (foldB tok), .int .i64 up, .bool false, .bool hid],
         fun _ v u => ∃ b, v = .slice (some ⟨b, 0, none⟩) 1 1 ∧ b ≠ g ∧ Rd u (some ⟨b, 0, none⟩) 1 1 4 (encW y),
         fun γ v u => γ.1 = true ∧ ∃ b c', v = .slice (some ⟨b, 0, none⟩) (L + 1) c' ∧ w2.heap.size ≤ b ∧ Rd u (some ⟨b, 0, none⟩) (L + 1) c' 4 (wcells s2.words ++ encW y),
         fun _ v _ => v = .pointer (some ⟨g, 0, none⟩), fun _ v _ => v = .pointer (some ⟨g, 0, none⟩), fun _ v _ => v = .pointer (some ⟨g, 4, none⟩), fun γ _ _ => γ.2 = true]
        (fun | 2 => [1] | 3 => [2] | 4 => [3] | 5 => [4] | 6 => [5] | 8 => [7] | 10 => [9] | 11 => [10] | 12 => [11] | 13 => [12] | 15 => [8, 13, 14] | 16 => [15] | 17 => [6, 16] | 18 => [0] | 19 => [18] | 20 => [19] | 21 => [17, 20] | _ => [])
        _ rfl rfl (by kernel_rfl) (by kernel_rfl) (false, false) (fun i => by rw [hU]; exact ⟨fun _ => rfl, fun _ => rfl⟩)
        (by rw [hJ]; exact ⟨fun h => (by cases h), grown_of_below (Below.refl _ _).drew, fun _ => (Below.refl _ _).drew, fun h => (by cases h)⟩) ?_ ?_ ?_ ?_
      · intro γ v γ' v' hj he
        rw [hE] at he
        exact he.2.2.2
      · intro i hi γ v u γ' u' hj h he
        rw [hE] at he
        match i, hi, h with
        | 0, _, h => exact h
        | 1, _, h => exact h
        | 2, _, h => exact h
        | 3, _, h => exact h
        | 4, _, h => exact h
        | 5, _, h => exact ⟨he.1 h.1, h.2⟩
        | 6, _, h => exact ⟨he.1 h.1, h.2⟩
        | 7, _, h => exact h
        | 8, _, h => exact h
        | 9, _, h => exact h
        | 10, _, h => exact h
        | 11, _, h => exact h
        | 12, _, h => exact h
        | 13, _, h => exact h
        | 14, _, h => exact h
        | 15, _, h => exact h
        | 16, _, h =>
          obtain ⟨b, e1, e2, e3⟩ := h
          exact ⟨b, e1, e2, rd_apart e3 he.2.2.1 (fun _ ad e => by cases e; exact e2)⟩
        | 17, _, h =>
          obtain ⟨e0, b, c', e1, e2, e3⟩ := h
          exact ⟨he.1 e0, b, c', e1, e2, rd_apart e3 he.2.2.1 (fun _ ad e => by cases e; show b ≠ g; omega)⟩
        | 18, _, h => exact h
        | 19, _, h => exact h
        | 20, _, h => exact h
        | 21, _, h => exact he.2.1 h
        | n + 22, hi, _ => exact absurd hi (by simp)
      · refine ⟨?_, ?_, ?_, ?_, ?_, ?_, ?_, ?_, ?_, ?_, ?_, ?_, ?_, ?_, ?_, ?_, ?_, ?_, ?_, ?_, ?_, ?_, trivial⟩
        · intro a γ v hj hu hd hf
          exact rg_move _ rfl _ (hf 0 (by decide)) ⟨_, rfl, quiet _ _ _ _ _ hj rfl⟩
        · intro a γ v hj hu hd hf
          exact rg_move _ rfl _ (hf 0 (by decide)) ⟨_, rfl, quiet _ _ _ _ _ hj rfl⟩
        · intro a γ v hj hu hd hf
          obtain ⟨y, e, rfl⟩ := hd 1 (by simp)
          exact rg_nil _ rfl _ (e 35 rfl) ⟨_, rfl, quiet _ _ _ _ _ hj rfl⟩
        · intro a γ v hj hu hd hf
          obtain ⟨y, e, rfl⟩ := hd 2 (by simp)
          exact rg_field _ _ _ rfl _ _ (e 36 rfl) (hfa v) ⟨_, rfl, quiet _ _ _ _ _ hj rfl⟩
        · intro a γ v hj hu hd hf
          obtain ⟨y, e, rfl⟩ := hd 3 (by simp)
          exact rg_field _ _ _ rfl _ _ (e 37 rfl) (hf4 v) ⟨_, rfl, quiet _ _ _ _ _ hj rfl⟩
        · intro a γ v hj hu hd hf
          obtain ⟨y, e, rfl⟩ := hd 4 (by simp)
          have hj' := hj
          have hu' := hu
          rw [hJ] at hj'
          rw [hU] at hu'
          have h2 : γ.2 = false := by
            cases h : γ.2 with
            | false => rfl
            | true =>
              have h1 := hj'.1 h
              rw [hu'.1 rfl] at h1
              cases h1
          have hk : v.cell? ⟨g, 4, none⟩ = some (.slice q.w L q.wc) := by
            have h := (HT3.out.wk.below (hj'.2.2.1 h2)).words
            rw [HL.out] at h
            exact h
          refine rg_loadv _ _ rfl _ _ (e 38 rfl) (ld_words _ _ _ _ _ hk) ⟨_, rfl, (true, γ.2), ?_, fun j hj2 h => ?_, rfl, rfl⟩
          · rw [hE]
            refine ⟨fun _ => rfl, id, World.grownBy.refl _ _, ?_⟩
            rw [hJ]
            exact ⟨fun _ => rfl, hj'.2⟩
          · rw [hU] at h ⊢
            exact ⟨fun e => absurd e hj2, h.2⟩
        · intro a γ v hj hu hd hf
          obtain ⟨y, e, h1, rfl⟩ := hd 5 (by simp)
          have hj' := hj
          rw [hJ] at hj'
          have hle := (hrd v hj'.2.1).words.le
          rw [HL.out] at hle
          refine rg_call 102 _ _ rfl #[.slice q.w L q.wc] (by simp [e 39 rfl]) (by go_simp) _ (ClipW_any q.w L q.wc v hle) ?_
          rintro r u ⟨rfl, rfl⟩
          exact ⟨_, rfl, _, rfl, quiet _ _ _ _ _ hj ⟨h1, rfl⟩⟩
        · intro a γ v hj hu hd hf
          exact rg_move _ rfl _ (hf 6 (by decide)) ⟨_, rfl, quiet _ _ _ _ _ hj rfl⟩
        · intro a γ v hj hu hd hf
          obtain ⟨y, e, rfl⟩ := hd 7 (by simp)
          refine rg_call 39 _ _ rfl #[.string tok] (by simp [e 41 rfl]) (by go_simp) _ (Fold_any tok v (by have := HTS.out; omega)) ?_
          rintro r u ⟨rfl, hb⟩
          exact ⟨_, rfl, _, rfl, below _ _ _ _ _ _ hj hb rfl⟩
        · intro a γ v hj hu hd hf
          exact rg_move _ rfl _ (hf 0 (by decide)) ⟨_, rfl, quiet _ _ _ _ _ hj rfl⟩
        · intro a γ v hj hu hd hf
          obtain ⟨y, e, rfl⟩ := hd 9 (by simp)
          exact rg_nil _ rfl _ (e 43 rfl) ⟨_, rfl, quiet _ _ _ _ _ hj rfl⟩
        · intro a γ v hj hu hd hf
          obtain ⟨y, e, rfl⟩ := hd 10 (by simp)
          exact rg_field _ _ _ rfl _ _ (e 44 rfl) (hfa v) ⟨_, rfl, quiet _ _ _ _ _ hj rfl⟩
        · intro a γ v hj hu hd hf
          obtain ⟨y, e, rfl⟩ := hd 11 (by simp)
          exact rg_field _ _ _ rfl _ _ (e 45 rfl) (hf8 v) ⟨_, rfl, quiet _ _ _ _ _ hj rfl⟩
        · intro a γ v hj hu hd hf
          obtain ⟨_, e, rfl⟩ := hd 12 (by simp)
          have hj' := hj
          rw [hJ] at hj'
          have hk : v.cell? ⟨g, 8, none⟩ = some (.int .i64 up) := by
            cases h : γ.2 with
            | false =>
              have h := (HT3.out.wk.below (hj'.2.2.1 h)).here
              rw [HS2.out.2.2.2] at h
              exact h
            | true =>
              obtain ⟨q', ht⟩ := hj'.2.2.2 h
              have h := ht.wk.here
              rw [HS3.out] at h
              rw [show ({ s2 with words := s2.words ++ [y] } : Ps).here = up from HS2.out.2.2.2] at h
              exact h
          exact rg_loadv _ _ rfl _ _ (e 46 rfl) (ld_int _ _ _ hk) ⟨_, rfl, quiet _ _ _ _ _ hj rfl⟩
        · intro a γ v hj hu hd hf
          exact rg_move _ rfl _ (hf 1 (by decide)) ⟨_, rfl, quiet _ _ _ _ _ hj rfl⟩
        · intro a γ v hj hu hd hf
          obtain ⟨_, e8, rfl⟩ := hd 8 (by simp)
          obtain ⟨_, e13, rfl⟩ := hd 13 (by simp)
          obtain ⟨_, e14, rfl⟩ := hd 14 (by simp)
          refine rg_run _ ?_ ⟨_, rfl, quiet _ _ _ _ _ hj rfl⟩
          unfold execOp
          simp only [List.map_toArray, List.map_cons, List.map_nil, e8 42 rfl, e13 47 rfl, e14 48 rfl, Sem.run_bind, bw_run, Sem.run_pure, Result.andThen_ok]
        · intro a γ v hj hu hd hf
          obtain ⟨_, e, rfl⟩ := hd 15 (by simp)
          have hj' := hj
          rw [hJ] at hj'
          have hlt : g < v.heap.size := Nat.lt_of_lt_of_le hgw hj'.2.1.size
          refine rg_runw (.slice (some ⟨v.heap.size, 0, none⟩) 1 1) (v.alloc (.cells #[.string (foldB tok), .int .i64 up, .bool false, .bool hid] 47 (0, 0))) ?_ ⟨_, rfl, below _ _ _ _ _ _ hj (below_lit _ _) ⟨v.heap.size, rfl, by omega, ?_⟩⟩
          · unfold execOp
            simp only [List.map_toArray, List.map_cons, List.map_nil, e 49 rfl, Sem.run_bind, bs_run, Sem.run_pure, Result.andThen_ok]
          · rw [HY.out]
            exact rd_alloc v _ _ _ _ 1 1 4 rfl rfl (by decide) (by decide)
        · intro a γ v hj hu hd hf
          obtain ⟨_, e6, h1, rfl⟩ := hd 6 (by simp)
          obtain ⟨_, e16, b, rfl, hb, hr⟩ := hd 16 (by simp)
          have hj' := hj
          rw [hJ] at hj'
          have hww := (hrd v hj'.2.1).words
          have hwr : Rd v q.w L q.wc 4 (wcells s2.words) := by
            rw [← HL.out]
            exact hww
          refine rg_appG (.tmp 40) (.tmp 50) 25 47 _ 4 32 rfl Tryz.underlying25 infoW rfl (by decide) (by decide) q.w L (wcells s2.words) (e6 40 rfl) hwr.clip (some ⟨b, 0, none⟩) 1 1 (encW y) (e16 50 rfl) hr (by decide) (by rw [HY.out]; intro u hu; simp only [List.mem_cons, List.not_mem_nil, or_false] at hu; rcases hu with rfl | rfl | rfl | rfl <;> rfl) (by omega) ?_
          intro A' c' w' ho hb2
          obtain ⟨b', cap, hv, hb3, hb4, hnc, hcm⟩ := own_form ho (by omega)
          cases hv
          exact ⟨_, rfl, below _ _ _ _ _ _ hj hb2 ⟨h1, b', _, rfl, Nat.le_trans hj'.2.1.size hb3, own_rd ho⟩⟩
        · intro a γ v hj hu hd hf
          obtain ⟨y, e, rfl⟩ := hd 0 (by simp)
          exact rg_nil _ rfl _ (e 34 rfl) ⟨_, rfl, quiet _ _ _ _ _ hj rfl⟩
        · intro a γ v hj hu hd hf
          obtain ⟨y, e, rfl⟩ := hd 18 (by simp)
          exact rg_field _ _ _ rfl _ _ (e 52 rfl) (hfa v) ⟨_, rfl, quiet _ _ _ _ _ hj rfl⟩
        · intro a γ v hj hu hd hf
          obtain ⟨y, e, rfl⟩ := hd 19 (by simp)
          exact rg_field _ _ _ rfl _ _ (e 53 rfl) (hf4 v) ⟨_, rfl, quiet _ _ _ _ _ hj rfl⟩
        · intro a γ v hj hu hd hf
          obtain ⟨_, e17, h1, b, c', rfl, hb, hr⟩ := hd 17 (by simp)
          obtain ⟨_, e20, rfl⟩ := hd 20 (by simp)
          have hj' := hj
          have hu' := hu
          rw [hJ] at hj'
          rw [hU] at hu'
          have h2 := hu'.2 rfl
          have hbel := hj'.2.2.1 h2
          refine rg_storeF 25 _ _ rfl g 4 _ (e20 54 rfl) (e17 51 rfl) rfl 62 _ (HT3.out.wk.below hbel).bx 21 rfl (by decide) info1w ?_
          intro w' hg2 hw2
          have hlen : s3.words.length = L + 1 := by rw [HS3.out]; simp [HL.out]
          have hbx : Bx w' g 62 (wdL { q with w := some ⟨b, 0, none⟩, wc := c' } s3 x 0) := by
            have e : (wdL q s2 x 0).set 4 (.slice (some ⟨b, 0, none⟩) (L + 1) c') = wdL { q with w := some ⟨b, 0, none⟩, wc := c' } s3 x 0 := by
              unfold wdL stL
              rw [hlen, HS3.out]
              rfl
            rw [← e]
            exact hg2
          have hbg : b ≠ g := by omega
          have hr2 : RdE w' encW 4 (some ⟨b, 0, none⟩) c' s3.words := by
            have h := rd_apart hr hw2 (fun _ ad e => by cases e; exact hbg)
            rw [HS3.out]
            show Rd _ _ (s2.words ++ [y]).length c' 4 (wcells (s2.words ++ [y]))
            rw [show wcells (s2.words ++ [y]) = wcells s2.words ++ encW y by simp [wcells], List.length_append, HL.out]
            exact h
          have hgr := hj'.2.1.trans hw2
          have hrd2 : RdP w' { q with w := some ⟨b, 0, none⟩, wc := c' } s3 := by
            have h := (hrd w' hgr).withWords hr2
            rw [HS3.out] at h ⊢
            exact h
          have hlw : ∀ S : Nat → Prop, Lies q s2 S → Lies { q with w := some ⟨b, 0, none⟩, wc := c' } s3 (fun c => S c ∨ w2.heap.size ≤ c) := fun S hS => by
            have h := (hS.mono (fun c hc => Or.inl hc) : Lies q s2 (fun c => S c ∨ w2.heap.size ≤ c)).withWords (A := some ⟨b, 0, none⟩) (c := c') (m := s2.words ++ [y]) (fun _ ad e => .inr (by cases e; exact hb))
            rw [HS3.out]
            exact h
          refine ⟨_, rfl, (γ.1, true), ?_, fun j hj2 h => ?_, rfl⟩
          · rw [hE]
            refine ⟨id, fun _ => rfl, hw2, ?_⟩
            rw [hJ]
            exact ⟨fun _ => h1, hgr, fun h => (by cases h), fun _ => ⟨_, ⟨hbx, hrd2, (hlw _ HT3.out.wk.ls).mono (fun c hc => hc.elim id (fun h => by omega))⟩, hlw, hgr⟩⟩
          · rw [hU] at h ⊢
            exact ⟨h.1, fun e => absurd e hj2⟩
      · intro V γ v hj h
        have h21 : γ.2 = true := h 21 (by decide)
        rw [hJ] at hj
        obtain ⟨q3, ht3⟩ := hj.2.2.2 h21
        have HT4 := Lib.hid (HT3.out.trans ht3)
        have HG4 := Lib.hid hj.2.1
        have HB1 := Lib.hid (HT3.out.gr.trans hj.2.1)
        clear h hj hJ hE hU quiet below ht3 hrd
        simp only [List.map_cons, List.map_nil, putD, Act.put, List.setIfInBounds_toArray, List.set_cons_succ, List.set_cons_zero, Nat.reduceAdd, Nat.zero_add]
        go_wp2_with fail
        have hm3 : s3.mem = s.mem := by rw [HS3.out]; exact HS2.out.2.1
        have hs3 : s3.spots = s.spots := by rw [HS3.out]; exact HS2.out.2.2.1
        refine (Emit_go g q3 s3 x 0 A c n code s' e' v HN.out HR4.out HT4.out.wk (rd_apart HX.out HB1.out (fun _ ad e => HAA.out ad e)) (by rw [hm3]; omega) (by rw [hs3]; omega)).mono ?_
        rintro r w4 ⟨rfl, q4, ht⟩
        have HT5 := Lib.hid (HT4.out.trans ht)
        clear ht hm3 hs3
        go_wp2
        first | go_end0 | go_ret
        exact ⟨rfl, q4, HT5.out⟩
  · have hr2 := HR2.out
    rw [if_neg (fun h => h0 h.1), makeD, if_neg h0] at hr2
    injection hr2 with ha hb
    subst ha hb
    clear HR2
    go_wp2_with fail
    refine (Ok_any g e1 false w2 (by simpa using h0) HT3.out.wk.er).mono ?_
    rintro r w3 ⟨rfl, rfl⟩
    go_wp2_with fail
    refine (Ok_any g e1 false w2 (by simpa using h0) HT3.out.wk.er).mono ?_
    rintro r w3 ⟨rfl, rfl⟩
    go_wp2
    first | go_end0 | go_ret
    exact ⟨rfl, q, HT3.out⟩
end Go.Proofs.YtappfhjknihboaaGreatDoor
