/-  -/
import Derived.Test.YtappfhjknihboaaGreatDoorMJ
import Derived.Deep.DeepCutAuto

/- defs.work: quote. -/
namespace Go.Proofs.YtappfhjknihboaaGreatDoor
open Go.RowKit

/-- The text up to the quote, and the place behind. -/
def quoT (x : Sx) (s : Ps) : ByteArray := L06.untilS x.src s.pos 34
def quoP (x : Sx) (s : Ps) : Ps := { s with pos := (behind x.src (untilB x.src s.pos 34) : Int) }
theorem quoT_size (x : Sx) (s : Ps) (h : x.src.size ≤ 200) : (quoT x s).size ≤ 200 := by
  unfold quoT L06.untilS
  rw [ByteArray.size_extract]
  omega
/-- Said at once. -/
def sayD (x : Sx) (t : ByteArray) (y : Ps × Int) : Ps × Int := if thr y.2 (sayE y.1 x t) = 0 then (sayS y.1 x t, 0) else (y.1, thr y.2 (sayE y.1 x t))
/-- Laid down. -/
def roomD (u : Int) (y : Ps × Int) : Ps × Int := if y.2 = 0 ∧ wrap64 ((y.1.mem.length : Int) - y.1.here) < u then (y.1, -8) else y
def setD (v : Int) (k : Nat) (y : Ps × Int) : Ps × Int := if y.2 = 0 then ({ y.1 with mem := setB y.1.mem (wrap64 (y.1.here + k)) v }, byteE y.1.mem.length (wrap64 (y.1.here + k))) else y
def setsD (t : ByteArray) : Nat → Nat → Ps × Int → Ps × Int
  | 0, _, y => y
  | n + 1, k, y => setsD t n (k + 1) (setD (bt t k) k y)
def upsD (u : Int) (y : Ps × Int) : Ps × Int := ({ y.1 with here := wrap64 (y.1.here + u) }, y.2)
def layD (t : ByteArray) (y : Ps × Int) : Ps × Int := upsD (upR t.size) (setsD t t.size 0 (roomD (upR t.size) (emitD y [10, (t.size : Int)])))
def quoteD (x : Sx) (y : Ps × Int) : Ps × Int := if y.1.comp = true then layD (quoT x y.1) (quoP x y.1, y.2) else sayD x (quoT x y.1) (quoP x y.1, y.2)

theorem wrapW (z : Int) : IntKind.i64.wrap z = wrap64 z := by rw [IntKind.wrap_i64]; unfold wrap64; rfl
theorem emit_mem : ∀ (l : List Int) (s : Ps), emitE s l = 0 → (emitS s l).mem.length = s.mem.length
  | [], s, _ => rfl
  | v :: r, s, h => by
    unfold emitE at h
    by_cases hc : commaE s = 0
    · rw [if_pos hc] at h
      rw [emitS, if_pos hc, emit_mem r (layS s v) h, layS_mem hc]
    · rw [if_neg hc] at h
      exact absurd h hc
theorem emitD_mem {s s2 : Ps} {e e2 : Int} {l : List Int} (hem : emitD (s, e) l = (s2, e2)) : s2.mem.length = s.mem.length := by
  unfold emitD at hem
  simp only at hem
  by_cases he : e = 0
  · rw [if_pos he] at hem
    by_cases hz : emitE s l = 0
    · rw [if_pos hz] at hem
      injection hem with ha hb
      rw [← ha]
      exact emit_mem l s hz
    · rw [if_neg hz] at hem
      injection hem with ha hb
      rw [← ha]
  · rw [if_neg he] at hem
    injection hem with ha hb
    rw [← ha]
theorem setB_le (l : List Int) (i v : Int) : (setB l i v).length ≤ l.length := by
  by_cases h : i < 0 ∨ (l.length : Int) ≤ i
  · rw [setB, byteE, if_pos h, if_neg (by decide)]
    exact Nat.zero_le _
  · rw [setB, byteE, if_neg h, if_pos rfl, length_splice _ _ _ (by simp; omega)]
    exact Nat.le_refl _
theorem bel_drewN (w : World) (n : Nat) : Below w.heap.size w (w.drewN n) := ⟨rfl, rfl, rfl, Nat.le_refl _, fun _ _ => rfl⟩
theorem setsD_step {t : ByteArray} {n j : Nat} {y : Ps × Int} (h : j < n) : setsD t (n - j) j y = setsD t (n - (j + 1)) (j + 1) (setD (bt t j) j y) := by
  rw [show n - j = (n - (j + 1)) + 1 by omega, setsD]
theorem isB_setD {l : List Int} (hb : isB l) (i v : Int) : isB (setB l i v) := by
  unfold setB
  split
  · exact isB_append (isB_take hb _) (isB_append (fun x hx => by simp at hx; omega) (isB_drop hb _))
  · intro x hx; simp at hx
theorem info1u : (Tryz.prog.info? 22).map (·.size) = some 1 := by kernel_rfl
theorem quiet_sw {P : Program} {f : FuncId} {args : Array Value} {w : World} {n : Nat} {v : Value}
    (h : Calls P f args (w.drewN n) fun e w' => e = .returned v ∧ w.drewN n = w') : Calls P f args (w.drewN n) fun e w'' => e = .returned v ∧ ∃ m, w'' = w.drewN m :=
  h.mono fun _ _ ⟨he, hm⟩ => ⟨he, n, hm.symm⟩
theorem rd_two (w : World) (a b : Int) : RdI (w.alloc (.cells #[.int .i64 a, .int .i64 b] 3)) .i64 (some ⟨w.heap.size, 0, none⟩) 2 [a, b] := rd_alloc w [.int .i64 a, .int .i64 b] #[.int .i64 a, .int .i64 b] 3 (0, 0) 2 2 1 rfl rfl (by decide) (by decide)

/-- keep, of what Say or Comma hands back. -/
theorem thr_z {e f : Int} : thr e f = 0 ↔ e = 0 ∧ f = 0 := by
  unfold thr
  split
  · rename_i h; simp [h]
  · rename_i h; simp [h]
theorem Keep_any (g : Nat) (q : Ad) (s : Ps) (x : Sx) (e f : Int) (q2 : Ad) (s2 s' : Ps) (e' : Int) (w0 w : World) (hb : Below w0.heap.size w0 w) (hr : (if thr e f = 0 then (s2, 0) else (s, thr e f)) = (s', e')) (h : Dk w0 g q s x e) (h2 : Res w0.heap.size q s w q2 s2) :
    Calls Tryz.prog 53 #[.pointer (some ⟨g, 0, none⟩), stV q2 s2, .int .i64 f] w fun r w' => r = .returned (.tuple #[]) ∧ ∃ q', Td g w0 q s w' q' s' x e' := by
  by_cases h0 : thr e f = 0
  · rw [if_pos h0] at hr
    obtain ⟨rfl, rfl⟩ := thr_z.1 h0
    injection hr with ha hb2
    subst ha hb2
    refine (Keep_ok g q s x q2 s2 w (h.below hb) h2.rd ((h2.lies _ h.ls).mono (fun b hx => hx.elim id (fun hx => by have := h.lt; omega)))).mono ?_
    rintro r w' ⟨rfl, hk, hg⟩
    exact ⟨rfl, q2, hk, h2.lies, (grown_of_below hb).trans hg⟩
  · rw [if_neg h0] at hr
    injection hr with ha hb2
    subst ha hb2
    refine (Keep_no g q s x e f q2 s2 w h0 (h.below hb)).mono ?_
    rintro r w' ⟨rfl, ht⟩
    exact ⟨rfl, q, Td.of_below hb ht⟩
theorem Dk.xs {w : World} {g : Nat} {q : Ad} {s : Ps} {x : Sx} {e : Int} (h : Dk w g q s x e) :
    w.cell? ⟨g, 15, none⟩ = some (.string x.src) ∧ w.cell? ⟨g, 16, none⟩ = some (.slice x.iA x.iN x.iC) ∧ w.cell? ⟨g, 17, none⟩ = some (.int .i64 x.size) ∧ w.cell? ⟨g, 18, none⟩ = some (.int .i64 x.depth) ∧ w.cell? ⟨g, 19, none⟩ = some (.int .i64 x.room) :=
  ⟨h.bx.cell 15, h.bx.cell 16, h.bx.cell 17, h.bx.cell 18, h.bx.cell 19⟩

theorem infoSx : (Tryz.prog.info? 30).map (·.size) = some 5 := by kernel_rfl
theorem Dk.loadX {w : World} {g : Nat} {q : Ad} {s : Ps} {x : Sx} {e : Int} (h : Dk w g q s x e) : (Instr.loadAt 30 (.pointer (some ⟨g, 15, none⟩))).run Tryz.prog w = .ok (suV x) w :=
  run_loadAt_mid w g 15 30 (suL x) _ h.rangeX Tryz.underlying30 rfl infoSx
set_option maxRecDepth 100000 in
set_option maxHeartbeats 4000000 in
theorem Quote_no (g : Nat) (q : Ad) (s : Ps) (x : Sx) (e : Int) (s' : Ps) (e' : Int) (w : World) (hr : quoteD x (s, e) = (s', e')) (hcf : s.comp = false) (h : Dk w g q s x e) (hsz : x.src.size ≤ 200)
    (_hm : s.mem.length ≤ 1000000) (_hsp : s.spots.length ≤ 100000) (ho : s.out.length ≤ 100000) :
    Calls Tryz.prog 75 #[.pointer (some ⟨g, 0, none⟩)] w fun r w' => r = .returned (.tuple #[]) ∧ ∃ q', Td g w q s w' q' s' x e' := by
  have H := Lib.hid h
  have c9 := h.pos
  have c15 := h.src
  have c13 := h.comp
  have hg := h.lt
  have HTS := Lib.hid (quoT_size x s hsz)
  have hsz2 : x.src.size ≤ maxLen := by unfold maxLen; omega
  obtain ⟨t, ht⟩ : ∃ t, quoT x s = t := ⟨_, rfl⟩
  obtain ⟨s1, hs1⟩ : ∃ a, quoP x s = a := ⟨_, rfl⟩
  have hF : s1.mem = s.mem ∧ s1.spots = s.spots ∧ s1.out = s.out ∧ s1.comp = s.comp := by rw [← hs1]; exact ⟨rfl, rfl, rfl, rfl⟩
  have HF := Lib.hid hF
  unfold quoteD at hr
  simp only at hr
  rw [ht, hs1] at hr
  rw [ht] at HTS
  have HT := Lib.hid ht
  have HR := Lib.hid hr
  have HS1 := Lib.hid hs1
  clear h hr ht hs1 hF
  go_enter Tryz.func75, Tryz.ntmps75
  go_upto_region 0 with fail
  go_cut [2, 3] (fun a b wx => a = .string t ∧ b = .int .i64 s1.pos ∧ Hid (Below w.heap.size w wx))
  case first =>
    go_region_law (first
      | (go_simp; go_at_call 72; refine (L06.Until_any x.src s.pos 34 _ hsz2 (by decide) (by decide)).mono ?_; rintro r w1 ⟨rfl, hb⟩; have hb1 : Below w.heap.size w w1 := (Below.refl _ _).drew.trans hb))
    all_goals
      go_wp2_with fail
      go_meet
      exact ⟨by rw [← HT.out]; rfl, by rw [← HS1.out]; rfl, Lib.hid hb1⟩
  case rest =>
    obtain ⟨rfl, rfl, HB⟩ := hcut
    obtain ⟨w1, hW⟩ : ∃ W, W = wc := ⟨_, rfl⟩
    subst hW
    have H1 := Lib.hid (H.out.below HB.out)
    clear c9 c15 c13
    go_wp2_with (refine wp_storeF rfl 3 _ _ rfl g 9 _ rfl rfl rfl 62 _ H1.out.bx 21 rfl (by decide) info1i ?_)
    intro w2 hg2 hw2
    have HT2 : Hid (Td g w q s w2 q s1 x e) := Lib.hid (by
      have hG : Bx w2 g 62 (wdL q s1 x e) := by rw [← HS1.out] at hg2 ⊢; exact hg2
      rw [← HS1.out] at hG ⊢
      exact Td.of_below HB.out ⟨⟨hG, (H1.out.rd.grown H1.out.ls hw2 (fun h => h rfl)).withPos _, H1.out.ls.withPos _⟩, fun S hS => (hS.withPos _).mono (fun _ h => .inl h), hw2⟩)
    clear hg2 hw2 H1 HB
    have hcomp := HF.out.2.2.2
    have hr := HR.out
    rw [if_neg (by rw [hcf]; decide)] at hr
    rw [hcf] at hcomp
    have c13 := HT2.out.wk.comp
    rw [hcomp] at c13
    have hou : s1.out.length ≤ 100000 := by rw [HF.out.2.2.1]; exact ho
    obtain ⟨s2, hs2⟩ : ∃ a, sayS s1 x t = a := ⟨_, rfl⟩
    obtain ⟨f, hf⟩ : ∃ a, sayE s1 x t = a := ⟨_, rfl⟩
    unfold sayD at hr
    simp only at hr
    rw [hs2, hf] at hr
    have HR2 := Lib.hid hr
    have HS2 := Lib.hid hs2
    have HFF := Lib.hid hf
    clear hr HR hcf hcomp hs2 hf
    go_upto_region 3 with fail
    have hgw : g < w2.heap.size := HT2.out.wk.lt
    have hfa : ∀ v : World, (Instr.fieldAt 62 (.pointer (some ⟨g, 0, none⟩)) 0).run Tryz.prog v = .ok (.pointer (some ⟨g, 0, none⟩)) v := fun v => by kernel_rfl
    have hfx : ∀ v : World, (Instr.fieldAt 62 (.pointer (some ⟨g, 0, none⟩)) 1).run Tryz.prog v = .ok (.pointer (some ⟨g, 15, none⟩)) v := fun v => by kernel_rfl
    obtain ⟨J, hJ⟩ : ∃ J : Bool × Bool × Bool × Bool → World → Prop, J = fun γ v => (γ.2.2.1 = true → γ.1 = true ∧ γ.2.1 = true) ∧ (γ.2.2.2 = true → γ.2.2.1 = true) ∧ (γ.2.2.2 = false → Below w2.heap.size w2 v) ∧ (γ.2.2.2 = true → ∃ q', Td g w2 q s1 v q' s' x e') := ⟨_, rfl⟩
    obtain ⟨E, hE⟩ : ∃ E : Bool × Bool × Bool × Bool → World → Bool × Bool × Bool × Bool → World → Prop, E = fun γ v γ' v' => (γ.1 = true → γ'.1 = true) ∧ (γ.2.1 = true → γ'.2.1 = true) ∧ (γ.2.2.1 = true → γ'.2.2.1 = true) ∧ (γ'.2.2.2 = false → γ.2.2.2 = false ∧ Below v.heap.size v v') ∧ J γ' v' := ⟨_, rfl⟩
    obtain ⟨U, hU⟩ : ∃ U : Nat → Bool × Bool × Bool × Bool → Prop, U = fun i γ => (i = 4 → γ.1 = false) ∧ (i = 8 → γ.2.1 = false) ∧ (i = 10 → γ.2.2.1 = false) ∧ (i = 13 → γ.2.2.2 = false) := ⟨_, rfl⟩
    have quiet : ∀ (γ : Bool × Bool × Bool × Bool) (v : World) (i : Nat) (r : Value) (F : Bool × Bool × Bool × Bool → Value → World → Prop), J γ v → F γ r v → Did E U γ v i r v F :=
      fun γ v i r F hj h => ⟨γ, by rw [hE]; exact ⟨id, id, id, fun h => ⟨h, Below.refl _ _⟩, hj⟩, fun _ _ h => h, h⟩
    refine wp_region_list (Γ := Bool × Bool × Bool × Bool) (J := J) (E := E) (U := U)
      [fun _ v _ => v = .pointer (some ⟨g, 0, none⟩), fun _ v _ => v = .pointer (some ⟨g, 0, none⟩), fun _ v _ => v = .pointer (some ⟨g, 0, none⟩), fun _ v _ => v = .pointer (some ⟨g, 0, none⟩),
       fun γ v _ => γ.1 = true ∧ v = stV q s1, fun _ v _ => v = .pointer (some ⟨g, 0, none⟩), fun _ v _ => v = .pointer (some ⟨g, 0, none⟩), fun _ v _ => v = .pointer (some ⟨g, 15, none⟩), fun γ v _ => γ.2.1 = true ∧ v = suV x, fun _ v _ => v = .string t,
       fun γ v u => γ.2.2.1 = true ∧ ∃ q2, v = .tuple #[stV q2 s2, .int .i64 f] ∧ (γ.2.2.2 = false → Res w2.heap.size q s1 u q2 s2), fun γ v u => γ.2.2.1 = true ∧ ∃ q2, v = stV q2 s2 ∧ (γ.2.2.2 = false → Res w2.heap.size q s1 u q2 s2), fun _ v _ => v = .int .i64 f, fun γ _ _ => γ.2.2.2 = true]
      (fun | 2 => [1] | 3 => [2] | 4 => [3] | 6 => [5] | 7 => [6] | 8 => [7] | 10 => [4, 8, 9] | 11 => [10] | 12 => [10] | 13 => [0, 11, 12] | _ => [])
      _ rfl rfl (by kernel_rfl) (by kernel_rfl) (false, false, false, false) (fun i => by rw [hU]; exact ⟨fun _ => rfl, fun _ => rfl, fun _ => rfl, fun _ => rfl⟩)
      (by rw [hJ]; exact ⟨fun h => (by cases h), fun h => (by cases h), fun _ => (Below.refl _ _).drew, fun h => (by cases h)⟩) ?_ ?_ ?_ ?_
    · intro γ v γ' v' hj he
      rw [hE] at he
      exact he.2.2.2.2
    · intro i hi γ v u γ' u' hj h he
      rw [hE] at he
      obtain ⟨e1, e2, e3, e4, e5⟩ := he
      match i, hi, h with
      | 0, _, h => exact h
      | 1, _, h => exact h
      | 2, _, h => exact h
      | 3, _, h => exact h
      | 4, _, h => exact ⟨e1 h.1, h.2⟩
      | 5, _, h => exact h
      | 6, _, h => exact h
      | 7, _, h => exact h
      | 8, _, h => exact ⟨e2 h.1, h.2⟩
      | 9, _, h => exact h
      | 10, _, h =>
        obtain ⟨h1, q2, h2, h3⟩ := h
        exact ⟨e3 h1, q2, h2, fun h => by obtain ⟨ha, hb⟩ := e4 h; exact (h3 ha).below hb⟩
      | 11, _, h =>
        obtain ⟨h1, q2, h2, h3⟩ := h
        exact ⟨e3 h1, q2, h2, fun h => by obtain ⟨ha, hb⟩ := e4 h; exact (h3 ha).below hb⟩
      | 12, _, h => exact h
      | 13, _, h =>
        show γ'.2.2.2 = true
        cases h2 : γ'.2.2.2 with
        | true => rfl
        | false =>
          have h3 := (e4 h2).1
          rw [show γ.2.2.2 = true from h] at h3
          cases h3
      | n + 14, hi, _ => exact absurd hi (by simp)
    · have nok : ∀ (γ : Bool × Bool × Bool × Bool) (v : World), J γ v → γ.2.2.1 = false → γ.2.2.2 = false := by
        intro γ v hj h
        rw [hJ] at hj
        cases h2 : γ.2.2.2 with
        | false => rfl
        | true => rw [hj.2.1 h2] at h; cases h
      have nos : ∀ (γ : Bool × Bool × Bool × Bool) (v : World), J γ v → γ.1 = false ∨ γ.2.1 = false → γ.2.2.1 = false := by
        intro γ v hj h
        rw [hJ] at hj
        cases h2 : γ.2.2.1 with
        | false => rfl
        | true => obtain ⟨ha, hb⟩ := hj.1 h2; rw [ha, hb] at h; rcases h with h | h <;> cases h
      have bel : ∀ (γ : Bool × Bool × Bool × Bool) (v : World), J γ v → γ.2.2.2 = false → Below w2.heap.size w2 v := by
        intro γ v hj h
        rw [hJ] at hj
        exact hj.2.2.1 h
      refine ⟨?_, ?_, ?_, ?_, ?_, ?_, ?_, ?_, ?_, ?_, ?_, ?_, ?_, ?_, trivial⟩
      · intro a γ v hj hu hd hf
        exact rg_move _ rfl _ (hf 0 (by decide)) ⟨_, rfl, quiet _ _ _ _ _ hj rfl⟩
      · intro a γ v hj hu hd hf
        exact rg_move _ rfl _ (hf 0 (by decide)) ⟨_, rfl, quiet _ _ _ _ _ hj rfl⟩
      · intro a γ v hj hu hd hf
        obtain ⟨y, e, rfl⟩ := hd 1 (by simp)
        exact rg_nil _ rfl _ (e 33 rfl) ⟨_, rfl, quiet _ _ _ _ _ hj rfl⟩
      · intro a γ v hj hu hd hf
        obtain ⟨y, e, rfl⟩ := hd 2 (by simp)
        exact rg_field _ _ _ rfl _ _ (e 34 rfl) (hfa v) ⟨_, rfl, quiet _ _ _ _ _ hj rfl⟩
      · intro a γ v hj hu hd hf
        obtain ⟨y, e, rfl⟩ := hd 3 (by simp)
        rw [hU] at hu
        have hb := bel γ v hj (nok γ v hj (nos γ v hj (.inl (hu.1 rfl))))
        refine rg_loadv _ _ rfl _ _ (e 35 rfl) (HT2.out.wk.below hb).load ⟨_, rfl, (true, γ.2.1, γ.2.2.1, γ.2.2.2), ?_, fun j hj2 h => ?_, rfl, rfl⟩
        · rw [hE]
          refine ⟨fun _ => rfl, id, id, fun h => ⟨h, Below.refl _ _⟩, ?_⟩
          rw [hJ] at hj ⊢
          exact ⟨fun h => ⟨rfl, (hj.1 h).2⟩, hj.2⟩
        · rw [hU] at h ⊢
          exact ⟨fun e => absurd e hj2, h.2⟩
      · intro a γ v hj hu hd hf
        exact rg_move _ rfl _ (hf 0 (by decide)) ⟨_, rfl, quiet _ _ _ _ _ hj rfl⟩
      · intro a γ v hj hu hd hf
        obtain ⟨y, e, rfl⟩ := hd 5 (by simp)
        exact rg_nil _ rfl _ (e 37 rfl) ⟨_, rfl, quiet _ _ _ _ _ hj rfl⟩
      · intro a γ v hj hu hd hf
        obtain ⟨y, e, rfl⟩ := hd 6 (by simp)
        exact rg_field _ _ _ rfl _ _ (e 38 rfl) (hfx v) ⟨_, rfl, quiet _ _ _ _ _ hj rfl⟩
      · intro a γ v hj hu hd hf
        obtain ⟨y, e, rfl⟩ := hd 7 (by simp)
        rw [hU] at hu
        have hb := bel γ v hj (nok γ v hj (nos γ v hj (.inr (hu.2.1 rfl))))
        refine rg_loadv _ _ rfl _ _ (e 39 rfl) (HT2.out.wk.below hb).loadX ⟨_, rfl, (γ.1, true, γ.2.2.1, γ.2.2.2), ?_, fun j hj2 h => ?_, rfl, rfl⟩
        · rw [hE]
          refine ⟨id, fun _ => rfl, id, fun h => ⟨h, Below.refl _ _⟩, ?_⟩
          rw [hJ] at hj ⊢
          exact ⟨fun h => ⟨(hj.1 h).1, rfl⟩, hj.2⟩
        · rw [hU] at h ⊢
          exact ⟨h.1, fun e => absurd e hj2, h.2.2⟩
      · intro a γ v hj hu hd hf
        exact rg_move _ rfl _ (hf 2 (by decide)) ⟨_, rfl, quiet _ _ _ _ _ hj rfl⟩
      · intro a γ v hj hu hd hf
        obtain ⟨_, e4, ha, rfl⟩ := hd 4 (by simp)
        obtain ⟨_, e8, hb, rfl⟩ := hd 8 (by simp)
        obtain ⟨_, e9, rfl⟩ := hd 9 (by simp)
        rw [hU] at hu
        have hd0 := nok γ v hj (hu.2.2.1 rfl)
        have hbl := bel γ v hj hd0
        refine rg_call 15 _ _ rfl #[stV q s1, suV x, .string t] (by simp [e4 36 rfl, e8 40 rfl, e9 41 rfl]) (by go_simp) _ (Say_any q s1 x t s2 f v HS2.out HFF.out (HT2.out.wk.rd.below hbl) hou (by have := HTS.out; omega)) ?_
        rintro r u ⟨q2, rfl, hres, hbu⟩
        refine ⟨_, rfl, _, rfl, (γ.1, γ.2.1, true, γ.2.2.2), ?_, fun j hj2 h => ?_, rfl, q2, rfl, fun _ => hres.mono hbl.size⟩
        · rw [hE]
          refine ⟨id, id, fun _ => rfl, fun h => ⟨h, hbu⟩, ?_⟩
          rw [hJ] at hj ⊢
          exact ⟨fun _ => ⟨ha, hb⟩, fun _ => rfl, fun h => below_two (hj.2.2.1 h) hbu, fun h => by rw [show γ.2.2.2 = true from h] at hd0; cases hd0⟩
        · rw [hU] at h ⊢
          exact ⟨h.1, h.2.1, fun e => absurd e hj2, h.2.2.2⟩
      · intro a γ v hj hu hd hf
        obtain ⟨_, e, h1, q2, rfl, h2⟩ := hd 10 (by simp)
        exact rg_extract _ _ rfl _ (e 42 rfl) _ rfl ⟨_, rfl, quiet _ _ _ _ _ hj ⟨h1, q2, rfl, h2⟩⟩
      · intro a γ v hj hu hd hf
        obtain ⟨_, e, h1, q2, rfl, h2⟩ := hd 10 (by simp)
        exact rg_extract _ _ rfl _ (e 42 rfl) _ rfl ⟨_, rfl, quiet _ _ _ _ _ hj rfl⟩
      · intro a γ v hj hu hd hf
        obtain ⟨_, e0, rfl⟩ := hd 0 (by simp)
        obtain ⟨_, e11, h1, q2, rfl, h2⟩ := hd 11 (by simp)
        obtain ⟨_, e12, rfl⟩ := hd 12 (by simp)
        rw [hU] at hu
        have hd0 := hu.2.2.2 rfl
        have hbl := bel γ v hj hd0
        refine rg_call 53 _ _ rfl #[.pointer (some ⟨g, 0, none⟩), stV q2 s2, .int .i64 f] (by simp [e0 32 rfl, e11 43 rfl, e12 44 rfl]) (by go_simp) _ (Keep_any g q s1 x e f q2 s2 s' e' w2 v hbl HR2.out HT2.out.wk (h2 hd0)) ?_
        rintro r u ⟨rfl, q', ht⟩
        refine ⟨_, rfl, _, rfl, (γ.1, γ.2.1, γ.2.2.1, true), ?_, fun j hj2 h => ?_, rfl⟩
        · rw [hE]
          refine ⟨id, id, id, fun h => (by cases h), ?_⟩
          rw [hJ] at hj ⊢
          exact ⟨hj.1, fun _ => h1, fun h => (by cases h), fun _ => ⟨q', ht⟩⟩
        · rw [hU] at h ⊢
          exact ⟨h.1, h.2.1, h.2.2.1, fun e => absurd e hj2⟩
    · intro V γ v hj h
      have h13 : γ.2.2.2 = true := h 13 (by decide)
      rw [hJ] at hj
      obtain ⟨q', ht⟩ := hj.2.2.2 h13
      have HTF := Lib.hid (HT2.out.trans ht)
      clear hj h ht quiet hJ hE hU
      simp only [List.map_cons, List.map_nil, putD, Act.put, List.setIfInBounds_toArray, List.set_cons_succ, List.set_cons_zero, Nat.reduceAdd, Nat.zero_add]
      go_wp2_with fail
      first | go_end0 | (refine bodyPost_ret (results_none rfl _ _ _) rfl ?_)
      exact ⟨rfl, q', HTF.out⟩
end Go.Proofs.YtappfhjknihboaaGreatDoor


/- defs: the closures of makers and readers, but those that write a place. -/
namespace Go.Proofs.YtappfhjknihboaaGreatDoor
open Go.RowKit

/-- Sizes. -/
structure SzD (s : Ps) : Prop where
  mem : s.mem.length ≤ 100000
  data : s.data.length ≤ 100000
  spots : s.spots.length ≤ 10000
  words : s.words.length ≤ 100000
  out : s.out.length ≤ 100000
  nms : ∀ y ∈ s.words, y.nm.size ≤ 140737488355327
theorem rd_three (w : World) (a b c : Int) : RdI (w.alloc (.cells #[.int .i64 a, .int .i64 b, .int .i64 c] 3)) .i64 (some ⟨w.heap.size, 0, none⟩) 3 [a, b, c] := rd_alloc w [.int .i64 a, .int .i64 b, .int .i64 c] #[.int .i64 a, .int .i64 b, .int .i64 c] 3 (0, 0) 3 3 1 rfl rfl (by decide) (by decide)
theorem rd_nilI (w : World) : RdI w .i64 none 0 [] := rd_nil w 1

def compD (b : Bool) (y : Ps × Int) : Ps × Int := ({ y.1 with comp := b }, y.2)
def colonD (x : Sx) (y : Ps × Int) : Ps × Int := compD true (createD x true [] y)
def constD (x : Sx) (y : Ps × Int) : Ps × Int := createD x false [2, takeV y, 1] (takeD y)
def creaD (x : Sx) (y : Ps × Int) : Ps × Int := createD x false [8, 0] y
def markD (x : Sx) (y : Ps × Int) : Ps × Int := createD x false [11, (y.1.words.length : Int)] y
def doesD (y : Ps × Int) : Ps × Int := emitD y [9]
def commaD (v : Int) (y : Ps × Int) : Ps × Int := if y.2 = 0 then (if thr y.2 (commaE y.1) = 0 then (commaS y.1 v, 0) else (y.1, thr y.2 (commaE y.1))) else y
def varD (x : Sx) (y : Ps × Int) : Ps × Int := commaD 0 (createD x false [8, 0] y)
def immY (y : Ps × Int) : Ps × Int := if y.1.words.length = 0 then (y.1, thr y.2 (-13)) else y
def immD (y : Ps × Int) : Ps × Int := lastD nowT (immY y)
def tickD (x : Sx) (y : Ps × Int) : Ps × Int := giveD x (foundD x y) (foundC y.1 (tokS x y.1))
def btickD (x : Sx) (y : Ps × Int) : Ps × Int := emitD (foundD x y) [2, foundC y.1 (tokS x y.1)]
def litD (y : Ps × Int) : Ps × Int := emitD (takeD y) [2, takeV y]
def charGD (x : Sx) (y : Ps × Int) : Ps × Int := giveD x (charD x y) (charV x y.1)
def bcharD (x : Sx) (y : Ps × Int) : Ps × Int := emitD (charD x y) [2, charV x y.1]
def parD (x : Sx) (y : Ps × Int) : Ps × Int := ({ y.1 with pos := (behind x.src (untilB x.src y.1.pos 41) : Int) }, y.2)
def lineD (x : Sx) (y : Ps × Int) : Ps × Int := ({ y.1 with pos := (lineR x.src y.1.pos : Int) }, y.2)
def postD (x : Sx) (y : Ps × Int) : Ps × Int := if foundN y.1 (tokS x y.1) = true then emitD (foundD x y) [foundC y.1 (tokS x y.1)] else emitD (foundD x y) [2, foundC y.1 (tokS x y.1), 12]

theorem takeD_same {y : Ps × Int} {s : Ps} {e : Int} (h : takeD y = (s, e)) : s.mem = y.1.mem ∧ s.spots = y.1.spots ∧ s.words = y.1.words ∧ s.data.length ≤ y.1.data.length ∧ s.ctl = y.1.ctl := by
  unfold takeD at h
  split at h
  · split at h
    · injection h with h1 h2
      rw [← h1]
      exact ⟨rfl, rfl, rfl, by simp, rfl⟩
    · injection h with h1 h2
      rw [← h1]
      exact ⟨rfl, rfl, rfl, Nat.le_refl _, rfl⟩
  · rw [h]
    exact ⟨rfl, rfl, rfl, Nat.le_refl _, rfl⟩
theorem createD_mem {x : Sx} {b : Bool} {l : List Int} {y : Ps × Int} {s : Ps} {e : Int} (h : createD x b l y = (s, e)) : s.mem.length = y.1.mem.length := by
  unfold createD makeD at h
  split at h
  · have h := emitD_mem h
    exact h
  · rw [show s = (upD (nameD x y)).1 from by rw [h]]
    rfl

section
variable (g : Nat) (q : Ad) (s : Ps) (x : Sx) (s' : Ps) (e' : Int) (w : World)
set_option maxRecDepth 100000
set_option maxHeartbeats 2000000
theorem M1_go (hr : colonD x (s, 0) = (s', e')) (h : Dk w g q s x 0) (hsz : x.src.size ≤ 200) (hz : SzD s) :
    Calls Tryz.prog 43 #[.pointer (some ⟨g, 0, none⟩)] w fun r w' => r = .returned (.tuple #[]) ∧ ∃ q', Td g w q s w' q' s' x e' := by
  obtain ⟨s1, e1, h1⟩ : ∃ a b, createD x true [] (s, 0) = (a, b) := ⟨_, _, rfl⟩
  unfold colonD at hr
  rw [h1] at hr
  injection hr with ha hb
  simp only at ha hb
  subst ha hb
  have HC := Lib.hid (Create_go g q s x 0 true none 0 0 [] s1 e1 w rfl h1 h (rd_nilI w) (fun _ e => by cases e) hsz (by have := hz.mem; omega) (by have := hz.spots; omega) (by have := hz.words; omega) (by decide))
  clear h h1
  go_enter Tryz.func43, Tryz.ntmps43
  go_wp2_with fail
  refine HC.out.mono ?_
  rintro r w1 ⟨rfl, q1, ht⟩
  have HT := Lib.hid ht
  clear ht HC
  go_wp2_with (refine wp_storeF rfl 4 _ _ rfl g 13 _ rfl rfl rfl 62 _ HT.out.wk.bx 21 rfl (by decide) info1b ?_)
  intro w4 hg4 hw4
  have HT4 := Lib.hid (HT.out.comp (b := true) hg4 hw4)
  clear hg4 hw4
  go_wp2
  first | go_end0 | go_ret
  exact ⟨rfl, q1, HT4.out⟩
theorem M2_go (hr : constD x (s, 0) = (s', e')) (h : Dk w g q s x 0) (hsz : x.src.size ≤ 200) (hz : SzD s) :
    Calls Tryz.prog 46 #[.pointer (some ⟨g, 0, none⟩)] w fun r w' => r = .returned (.tuple #[]) ∧ ∃ q', Td g w q s w' q' s' x e' := by
  obtain ⟨s1, e1, h1⟩ : ∃ a b, takeD (s, 0) = (a, b) := ⟨_, _, rfl⟩
  obtain ⟨v, hv⟩ : ∃ v, takeV (s, 0) = v := ⟨_, rfl⟩
  unfold constD at hr
  rw [h1, hv] at hr
  have hs := takeD_same h1
  simp only at hs
  have HS : Hid (s1.mem.length ≤ 1000000 ∧ s1.spots.length ≤ 100000 ∧ s1.words.length ≤ 1000000) := Lib.hid (by rw [hs.1, hs.2.1, hs.2.2.1]; have := hz.mem; have := hz.spots; have := hz.words; omega)
  have HC := Lib.hid (Take_go g q s x 0 v s1 e1 w hv h1 h)
  have HR := Lib.hid hr
  have hg := h.lt
  clear h h1 hv hs hr
  go_enter Tryz.func46, Tryz.ntmps46
  go_wp2_with fail
  refine HC.out.mono ?_
  rintro r w1 ⟨rfl, q1, ht⟩
  have HT := Lib.hid ht
  clear ht HC
  go_wp2_with fail
  refine (Create_go g q1 s1 x e1 false (some ⟨w1.heap.size, 0, none⟩) 3 3 [2, v, 1] s' e' _ rfl HR.out (HT.out.wk.below (below_lit _ _)) (rd_three w1 2 v 1) (fun _ e => by cases e; have := HT.out.wk.lt; show w1.heap.size ≠ g; omega) hsz HS.out.1 HS.out.2.1 HS.out.2.2 (by decide)).mono ?_
  rintro r w2 ⟨rfl, q2, ht⟩
  have HT2 := Lib.hid (HT.out.trans (Td.of_below (below_lit _ _) ht))
  clear ht
  go_wp2
  first | go_end0 | go_ret
  exact ⟨rfl, q2, HT2.out⟩
theorem M3_go (hr : creaD x (s, 0) = (s', e')) (h : Dk w g q s x 0) (hsz : x.src.size ≤ 200) (hz : SzD s) :
    Calls Tryz.prog 48 #[.pointer (some ⟨g, 0, none⟩)] w fun r w' => r = .returned (.tuple #[]) ∧ ∃ q', Td g w q s w' q' s' x e' := by
  have H := Lib.hid h
  have HR := Lib.hid hr
  have HZ := Lib.hid hz
  clear h hr hz
  go_enter Tryz.func48, Tryz.ntmps48
  go_wp2_with fail
  refine (Create_go g q s x 0 false (some ⟨w.heap.size, 0, none⟩) 2 2 [8, 0] s' e' _ rfl HR.out (H.out.below (below_lit _ _)) (rd_two w 8 0) (fun _ e => by cases e; have := H.out.lt; show w.heap.size ≠ g; omega) hsz (by have := HZ.out.mem; omega) (by have := HZ.out.spots; omega) (by have := HZ.out.words; omega) (by decide)).mono ?_
  rintro r w2 ⟨rfl, q2, ht⟩
  have HT2 := Lib.hid (Td.of_below (below_lit _ _) ht)
  clear ht
  go_wp2
  first | go_end0 | go_ret
  exact ⟨rfl, q2, HT2.out⟩
theorem M4_go (hr : markD x (s, 0) = (s', e')) (h : Dk w g q s x 0) (hsz : x.src.size ≤ 200) (hz : SzD s) :
    Calls Tryz.prog 49 #[.pointer (some ⟨g, 0, none⟩)] w fun r w' => r = .returned (.tuple #[]) ∧ ∃ q', Td g w q s w' q' s' x e' := by
  have H := Lib.hid h
  obtain ⟨n, hn⟩ : ∃ n, s.words.length = n := ⟨_, rfl⟩
  have c4 := h.words
  unfold markD at hr
  simp only at hr
  rw [hn] at hr c4
  have HR := Lib.hid hr
  have HZ := Lib.hid hz
  have HN := Lib.hid hn
  clear h hr hz hn
  go_enter Tryz.func49, Tryz.ntmps49
  go_wp2_with fail
  refine (Create_go g q s x 0 false (some ⟨w.heap.size, 0, none⟩) 2 2 [11, (n : Int)] s' e' _ rfl HR.out (H.out.below (below_lit _ _)) (rd_two w 11 n) (fun _ e => by cases e; have := H.out.lt; show w.heap.size ≠ g; omega) hsz (by have := HZ.out.mem; omega) (by have := HZ.out.spots; omega) (by have := HZ.out.words; omega) (by decide)).mono ?_
  rintro r w2 ⟨rfl, q2, ht⟩
  have HT2 := Lib.hid (Td.of_below (below_lit _ _) ht)
  clear ht
  go_wp2
  first | go_end0 | go_ret
  exact ⟨rfl, q2, HT2.out⟩
theorem M5_go (hr : doesD (s, 0) = (s', e')) (h : Dk w g q s x 0) (_hsz : x.src.size ≤ 200) (hz : SzD s) :
    Calls Tryz.prog 50 #[.pointer (some ⟨g, 0, none⟩)] w fun r w' => r = .returned (.tuple #[]) ∧ ∃ q', Td g w q s w' q' s' x e' := by
  have H := Lib.hid h
  have HR := Lib.hid hr
  have HZ := Lib.hid hz
  clear h hr hz
  go_enter Tryz.func50, Tryz.ntmps50
  go_wp2_with fail
  refine (Emit_go g q s x 0 (some ⟨w.heap.size, 0, none⟩) 1 1 [9] s' e' _ rfl HR.out (H.out.below (below_lit _ _)) (rd_one w 9) (by have := HZ.out.mem; omega) (by have := HZ.out.spots; omega)).mono ?_
  rintro r w2 ⟨rfl, q2, ht⟩
  have HT2 := Lib.hid (Td.of_below (below_lit _ _) ht)
  clear ht
  go_wp2
  first | go_end0 | go_ret
  exact ⟨rfl, q2, HT2.out⟩
theorem M6_go (hr : varD x (s, 0) = (s', e')) (h : Dk w g q s x 0) (hsz : x.src.size ≤ 200) (hz : SzD s) :
    Calls Tryz.prog 52 #[.pointer (some ⟨g, 0, none⟩)] w fun r w' => r = .returned (.tuple #[]) ∧ ∃ q', Td g w q s w' q' s' x e' := by
  have H := Lib.hid h
  obtain ⟨s1, e1, h1⟩ : ∃ a b, createD x false [8, 0] (s, 0) = (a, b) := ⟨_, _, rfl⟩
  have HM : Hid (s1.mem.length ≤ 100000) := Lib.hid (by rw [createD_mem h1]; exact hz.mem)
  unfold varD at hr
  rw [h1] at hr
  have HR := Lib.hid hr
  have HR1 := Lib.hid h1
  have HZ := Lib.hid hz
  clear h hr hz h1
  go_enter Tryz.func52, Tryz.ntmps52
  go_wp2_with fail
  refine (Create_go g q s x 0 false (some ⟨w.heap.size, 0, none⟩) 2 2 [8, 0] s1 e1 _ rfl HR1.out (H.out.below (below_lit _ _)) (rd_two w 8 0) (fun _ e => by cases e; have := H.out.lt; show w.heap.size ≠ g; omega) hsz (by have := HZ.out.mem; omega) (by have := HZ.out.spots; omega) (by have := HZ.out.words; omega) (by decide)).mono ?_
  rintro r w2 ⟨rfl, q2, ht⟩
  have HT2 := Lib.hid (Td.of_below (below_lit _ _) ht)
  clear ht
  by_cases h0 : e1 = 0
  · subst h0
    obtain ⟨s2, hs2⟩ : ∃ a, commaS s1 0 = a := ⟨_, rfl⟩
    obtain ⟨f, hf⟩ : ∃ a, commaE s1 = a := ⟨_, rfl⟩
    have hr := HR.out
    unfold commaD at hr
    rw [if_pos rfl] at hr
    simp only at hr
    rw [hs2, hf] at hr
    have HR2 := Lib.hid hr
    have HS2 := Lib.hid hs2
    have HFF := Lib.hid hf
    clear hr HR hs2 hf
    go_wp2_with fail
    refine (Ok_any g 0 true w2 rfl HT2.out.wk.er).mono ?_
    rintro r w3 ⟨rfl, rfl⟩
    go_wp2_with (refine wp_loadD rfl _ rfl g rfl q2 s1 x 0 HT2.out.wk ?_)
    refine (Comma_any q2 s1 0 s2 f w2 HS2.out HFF.out HT2.out.wk.rd (by have := HM.out; omega)).mono ?_
    rintro r w3 ⟨q3, rfl, hres, hb⟩
    have HRES := Lib.hid hres
    have HB := Lib.hid hb
    clear hres hb
    go_wp2_with fail
    refine (Keep_any g q2 s1 x 0 f q3 s2 s' e' w2 w3 HB.out HR2.out HT2.out.wk HRES.out).mono ?_
    rintro r w4 ⟨rfl, q4, ht⟩
    have HT4 := Lib.hid (HT2.out.trans ht)
    clear ht
    go_wp2
    first | go_end0 | go_ret
    exact ⟨rfl, q4, HT4.out⟩
  · have hr := HR.out
    unfold commaD at hr
    rw [if_neg (show ¬ (s1, e1).2 = 0 from h0)] at hr
    injection hr with ha hb
    subst ha hb
    go_wp2_with fail
    refine (Ok_any g e1 false w2 (by simpa using h0) HT2.out.wk.er).mono ?_
    rintro r w3 ⟨rfl, rfl⟩
    go_wp2
    first | go_end0 | go_ret
    exact ⟨rfl, q2, HT2.out⟩
theorem M7_go (hr : immD (s, 0) = (s', e')) (h : Dk w g q s x 0) (_hsz : x.src.size ≤ 200) (hz : SzD s) :
    Calls Tryz.prog 55 #[.pointer (some ⟨g, 0, none⟩)] w fun r w' => r = .returned (.tuple #[]) ∧ ∃ q', Td g w q s w' q' s' x e' := by
  have H := Lib.hid h
  have c4 := h.words
  have hwl := hz.words
  unfold immD immY at hr
  simp only at hr
  by_cases h0 : s.words.length = 0
  · rw [if_pos h0] at hr
    rw [h0] at c4
    have HR := Lib.hid hr
    have H0 := Lib.hid h0
    clear h hr h0 hwl
    go_enter Tryz.func55, Tryz.ntmps55
    go_wp2_with fail
    refine (Fail_any g q s x 0 (-13) w H.out).mono ?_
    rintro r w1 ⟨rfl, ht⟩
    have HT := Lib.hid ht
    clear ht
    go_wp2_with fail
    refine (LastNow_go g q s x (thr 0 (-13)) s' e' w1 HR.out HT.out.wk (fun h => absurd h (by decide)) (by rw [H0.out]; decide)).mono ?_
    rintro r w2 ⟨rfl, q2, ht⟩
    have HT2 := Lib.hid (HT.out.trans ht)
    clear ht
    go_wp2
    first | go_end0 | go_ret
    exact ⟨rfl, q2, HT2.out⟩
  · rw [if_neg h0] at hr
    have HR := Lib.hid hr
    have H0 := Lib.hid h0
    obtain ⟨n, hn⟩ : ∃ n, s.words.length = n := ⟨_, rfl⟩
    rw [hn] at c4 h0
    have h0' : ¬ (n : Int) = 0 := by omega
    clear h hr hn hwl
    go_enter Tryz.func55, Tryz.ntmps55
    go_wp2_with fail
    refine (LastNow_go g q s x 0 s' e' w HR.out H.out (fun _ => by have := H0.out; omega) (by have := hz.words; omega)).mono ?_
    rintro r w2 ⟨rfl, q2, ht⟩
    have HT2 := Lib.hid ht
    clear ht
    go_wp2
    first | go_end0 | go_ret
    exact ⟨rfl, q2, HT2.out⟩
theorem R4_go (hr : compD false (s, 0) = (s', e')) (h : Dk w g q s x 0) :
    Calls Tryz.prog 66 #[.pointer (some ⟨g, 0, none⟩)] w fun r w' => r = .returned (.tuple #[]) ∧ ∃ q', Td g w q s w' q' s' x e' := by
  have H := Lib.hid h
  injection hr with ha hb
  simp only at ha hb
  subst ha hb
  clear h
  go_enter Tryz.func66, Tryz.ntmps66
  go_wp2_with (refine wp_storeF rfl 4 _ _ rfl g 13 _ rfl rfl rfl 62 _ H.out.bx 21 rfl (by decide) info1b ?_)
  intro w4 hg4 hw4
  have HT4 := Lib.hid ((Td.same H.out).comp (b := false) hg4 hw4)
  clear hg4 hw4
  go_wp2
  first | go_end0 | go_ret
  exact ⟨rfl, q, HT4.out⟩
theorem R5_go (hr : compD true (s, 0) = (s', e')) (h : Dk w g q s x 0) :
    Calls Tryz.prog 67 #[.pointer (some ⟨g, 0, none⟩)] w fun r w' => r = .returned (.tuple #[]) ∧ ∃ q', Td g w q s w' q' s' x e' := by
  have H := Lib.hid h
  injection hr with ha hb
  simp only at ha hb
  subst ha hb
  clear h
  go_enter Tryz.func67, Tryz.ntmps67
  go_wp2_with (refine wp_storeF rfl 4 _ _ rfl g 13 _ rfl rfl rfl 62 _ H.out.bx 21 rfl (by decide) info1b ?_)
  intro w4 hg4 hw4
  have HT4 := Lib.hid ((Td.same H.out).comp (b := true) hg4 hw4)
  clear hg4 hw4
  go_wp2
  first | go_end0 | go_ret
  exact ⟨rfl, q, HT4.out⟩
end
end Go.Proofs.YtappfhjknihboaaGreatDoor


/- defs: the closures of readers. -/
namespace Go.Proofs.YtappfhjknihboaaGreatDoor
open Go.RowKit

theorem Td.place {g : Nat} {w w1 w2 : World} {q q1 : Ad} {s s1 : Ps} {x : Sx} {e1 : Int} {n : Int} (k : Td g w q s w1 q1 s1 x e1) (hg : Bx w2 g 62 (wdL q1 { s1 with pos := n } x e1)) (hw : w1.grownBy w2 (some g)) : Td g w q s w2 q1 { s1 with pos := n } x e1 :=
  ⟨⟨hg, (k.wk.rd.grown k.wk.ls hw (fun h => h rfl)).withPos n, k.wk.ls.withPos n⟩, fun S hS => (k.lies S hS).withPos n, k.gr.trans hw⟩
theorem foundD_same {x : Sx} {y : Ps × Int} {s : Ps} {e : Int} (h : foundD x y = (s, e)) : s.mem = y.1.mem ∧ s.spots = y.1.spots ∧ s.data = y.1.data := by
  unfold foundD at h
  injection h with h1 h2
  rw [← h1]
  exact ⟨rfl, rfl, rfl⟩
theorem charD_same {x : Sx} {y : Ps × Int} {s : Ps} {e : Int} (h : charD x y = (s, e)) : s.mem = y.1.mem ∧ s.spots = y.1.spots ∧ s.data = y.1.data := by
  unfold charD at h
  injection h with h1 h2
  rw [← h1]
  exact ⟨rfl, rfl, rfl⟩

section
variable (g : Nat) (q : Ad) (s : Ps) (x : Sx) (s' : Ps) (e' : Int) (w : World)
set_option maxRecDepth 100000
set_option maxHeartbeats 2000000
theorem R1_go (hr : tickD x (s, 0) = (s', e')) (h : Dk w g q s x 0) (hsz : x.src.size ≤ 200) (hz : SzD s) (ht : TabG g w) :
    Calls Tryz.prog 61 #[.pointer (some ⟨g, 0, none⟩)] w fun r w' => r = .returned (.tuple #[]) ∧ ∃ q', Td g w q s w' q' s' x e' := by
  obtain ⟨s1, e1, h1⟩ : ∃ a b, foundD x (s, 0) = (a, b) := ⟨_, _, rfl⟩
  obtain ⟨c, hc⟩ : ∃ v, foundC s (tokS x s) = v := ⟨_, rfl⟩
  obtain ⟨nw, hnw⟩ : ∃ v, foundN s (tokS x s) = v := ⟨_, rfl⟩
  unfold tickD at hr
  simp only at hr
  rw [h1, hc] at hr
  have hs := foundD_same h1
  simp only at hs
  have HS : Hid (s1.data.length ≤ 1000000) := Lib.hid (by rw [hs.2.2]; have := hz.data; omega)
  have HC := Lib.hid (Found_go g q s x 0 c nw s1 e1 w h1 hc hnw h hsz (by have := hz.words; omega) hz.nms ht)
  have HR := Lib.hid hr
  clear h h1 hc hnw hs hr ht
  go_enter Tryz.func61, Tryz.ntmps61
  go_wp2_with fail
  refine HC.out.mono ?_
  rintro r w1 ⟨rfl, q1, ht⟩
  have HT := Lib.hid ht
  clear ht HC
  go_wp2_with fail
  refine (Give_go g q1 s1 x e1 c s' e' w1 HR.out HT.out.wk HS.out).mono ?_
  rintro r w2 ⟨rfl, q2, ht⟩
  have HT2 := Lib.hid (HT.out.trans ht)
  clear ht
  go_wp2
  first | go_end0 | go_ret
  exact ⟨rfl, q2, HT2.out⟩
theorem R2_go (hr : btickD x (s, 0) = (s', e')) (h : Dk w g q s x 0) (hsz : x.src.size ≤ 200) (hz : SzD s) (ht : TabG g w) :
    Calls Tryz.prog 64 #[.pointer (some ⟨g, 0, none⟩)] w fun r w' => r = .returned (.tuple #[]) ∧ ∃ q', Td g w q s w' q' s' x e' := by
  obtain ⟨s1, e1, h1⟩ : ∃ a b, foundD x (s, 0) = (a, b) := ⟨_, _, rfl⟩
  obtain ⟨c, hc⟩ : ∃ v, foundC s (tokS x s) = v := ⟨_, rfl⟩
  obtain ⟨nw, hnw⟩ : ∃ v, foundN s (tokS x s) = v := ⟨_, rfl⟩
  unfold btickD at hr
  simp only at hr
  rw [h1, hc] at hr
  have hs := foundD_same h1
  simp only at hs
  have HS : Hid (s1.mem.length ≤ 140737488355328 ∧ s1.spots.length + 2 ≤ 1000000) := Lib.hid (by rw [hs.1, hs.2.1]; have := hz.mem; have := hz.spots; omega)
  have HC := Lib.hid (Found_go g q s x 0 c nw s1 e1 w h1 hc hnw h hsz (by have := hz.words; omega) hz.nms ht)
  have HR := Lib.hid hr
  clear h h1 hc hnw hs hr ht
  go_enter Tryz.func64, Tryz.ntmps64
  go_wp2_with fail
  refine HC.out.mono ?_
  rintro r w1 ⟨rfl, q1, ht⟩
  have HT := Lib.hid ht
  clear ht HC
  go_wp2_with fail
  refine (Emit_go g q1 s1 x e1 (some ⟨w1.heap.size, 0, none⟩) 2 2 [2, c] s' e' _ rfl HR.out (HT.out.wk.below (below_lit _ _)) (rd_two w1 2 c) HS.out.1 HS.out.2).mono ?_
  rintro r w2 ⟨rfl, q2, ht⟩
  have HT2 := Lib.hid (HT.out.trans (Td.of_below (below_lit _ _) ht))
  clear ht
  go_wp2
  first | go_end0 | go_ret
  exact ⟨rfl, q2, HT2.out⟩
theorem R3_go (hr : litD (s, 0) = (s', e')) (h : Dk w g q s x 0) (hz : SzD s) :
    Calls Tryz.prog 65 #[.pointer (some ⟨g, 0, none⟩)] w fun r w' => r = .returned (.tuple #[]) ∧ ∃ q', Td g w q s w' q' s' x e' := by
  obtain ⟨s1, e1, h1⟩ : ∃ a b, takeD (s, 0) = (a, b) := ⟨_, _, rfl⟩
  obtain ⟨v, hv⟩ : ∃ v, takeV (s, 0) = v := ⟨_, rfl⟩
  unfold litD at hr
  rw [h1, hv] at hr
  have hs := takeD_same h1
  simp only at hs
  have HS : Hid (s1.mem.length ≤ 140737488355328 ∧ s1.spots.length + 2 ≤ 1000000) := Lib.hid (by rw [hs.1, hs.2.1]; have := hz.mem; have := hz.spots; omega)
  have HC := Lib.hid (Take_go g q s x 0 v s1 e1 w hv h1 h)
  have HR := Lib.hid hr
  clear h h1 hv hs hr
  go_enter Tryz.func65, Tryz.ntmps65
  go_wp2_with fail
  refine HC.out.mono ?_
  rintro r w1 ⟨rfl, q1, ht⟩
  have HT := Lib.hid ht
  clear ht HC
  go_wp2_with fail
  refine (Emit_go g q1 s1 x e1 (some ⟨w1.heap.size, 0, none⟩) 2 2 [2, v] s' e' _ rfl HR.out (HT.out.wk.below (below_lit _ _)) (rd_two w1 2 v) HS.out.1 HS.out.2).mono ?_
  rintro r w2 ⟨rfl, q2, ht⟩
  have HT2 := Lib.hid (HT.out.trans (Td.of_below (below_lit _ _) ht))
  clear ht
  go_wp2
  first | go_end0 | go_ret
  exact ⟨rfl, q2, HT2.out⟩
theorem R6_go (hr : charGD x (s, 0) = (s', e')) (h : Dk w g q s x 0) (hsz : x.src.size ≤ 200) (hz : SzD s) :
    Calls Tryz.prog 68 #[.pointer (some ⟨g, 0, none⟩)] w fun r w' => r = .returned (.tuple #[]) ∧ ∃ q', Td g w q s w' q' s' x e' := by
  obtain ⟨s1, e1, h1⟩ : ∃ a b, charD x (s, 0) = (a, b) := ⟨_, _, rfl⟩
  obtain ⟨v, hv⟩ : ∃ v, charV x s = v := ⟨_, rfl⟩
  unfold charGD at hr
  simp only at hr
  rw [h1, hv] at hr
  have hs := charD_same h1
  simp only at hs
  have HS : Hid (s1.data.length ≤ 1000000) := Lib.hid (by rw [hs.2.2]; have := hz.data; omega)
  have HC := Lib.hid (Char_go g q s x 0 v s1 e1 w hv h1 h hsz)
  have HR := Lib.hid hr
  clear h h1 hv hs hr
  go_enter Tryz.func68, Tryz.ntmps68
  go_wp2_with fail
  refine HC.out.mono ?_
  rintro r w1 ⟨rfl, q1, ht⟩
  have HT := Lib.hid ht
  clear ht HC
  go_wp2_with fail
  refine (Give_go g q1 s1 x e1 v s' e' w1 HR.out HT.out.wk HS.out).mono ?_
  rintro r w2 ⟨rfl, q2, ht⟩
  have HT2 := Lib.hid (HT.out.trans ht)
  clear ht
  go_wp2
  first | go_end0 | go_ret
  exact ⟨rfl, q2, HT2.out⟩
theorem R7_go (hr : bcharD x (s, 0) = (s', e')) (h : Dk w g q s x 0) (hsz : x.src.size ≤ 200) (hz : SzD s) :
    Calls Tryz.prog 70 #[.pointer (some ⟨g, 0, none⟩)] w fun r w' => r = .returned (.tuple #[]) ∧ ∃ q', Td g w q s w' q' s' x e' := by
  obtain ⟨s1, e1, h1⟩ : ∃ a b, charD x (s, 0) = (a, b) := ⟨_, _, rfl⟩
  obtain ⟨v, hv⟩ : ∃ v, charV x s = v := ⟨_, rfl⟩
  unfold bcharD at hr
  simp only at hr
  rw [h1, hv] at hr
  have hs := charD_same h1
  simp only at hs
  have HS : Hid (s1.mem.length ≤ 140737488355328 ∧ s1.spots.length + 2 ≤ 1000000) := Lib.hid (by rw [hs.1, hs.2.1]; have := hz.mem; have := hz.spots; omega)
  have HC := Lib.hid (Char_go g q s x 0 v s1 e1 w hv h1 h hsz)
  have HR := Lib.hid hr
  clear h h1 hv hs hr
  go_enter Tryz.func70, Tryz.ntmps70
  go_wp2_with fail
  refine HC.out.mono ?_
  rintro r w1 ⟨rfl, q1, ht⟩
  have HT := Lib.hid ht
  clear ht HC
  go_wp2_with fail
  refine (Emit_go g q1 s1 x e1 (some ⟨w1.heap.size, 0, none⟩) 2 2 [2, v] s' e' _ rfl HR.out (HT.out.wk.below (below_lit _ _)) (rd_two w1 2 v) HS.out.1 HS.out.2).mono ?_
  rintro r w2 ⟨rfl, q2, ht⟩
  have HT2 := Lib.hid (HT.out.trans (Td.of_below (below_lit _ _) ht))
  clear ht
  go_wp2
  first | go_end0 | go_ret
  exact ⟨rfl, q2, HT2.out⟩
theorem R10_go (hr : postD x (s, 0) = (s', e')) (h : Dk w g q s x 0) (hsz : x.src.size ≤ 200) (hz : SzD s) (ht : TabG g w) :
    Calls Tryz.prog 76 #[.pointer (some ⟨g, 0, none⟩)] w fun r w' => r = .returned (.tuple #[]) ∧ ∃ q', Td g w q s w' q' s' x e' := by
  obtain ⟨s1, e1, h1⟩ : ∃ a b, foundD x (s, 0) = (a, b) := ⟨_, _, rfl⟩
  obtain ⟨c, hc⟩ : ∃ v, foundC s (tokS x s) = v := ⟨_, rfl⟩
  obtain ⟨nw, hnw⟩ : ∃ v, foundN s (tokS x s) = v := ⟨_, rfl⟩
  unfold postD at hr
  simp only at hr
  rw [h1, hc, hnw] at hr
  have hs := foundD_same h1
  simp only at hs
  have HS : Hid (s1.mem.length ≤ 140737488355328 ∧ s1.spots.length + 3 ≤ 1000000) := Lib.hid (by rw [hs.1, hs.2.1]; have := hz.mem; have := hz.spots; omega)
  have HC := Lib.hid (Found_go g q s x 0 c nw s1 e1 w h1 hc hnw h hsz (by have := hz.words; omega) hz.nms ht)
  have HR := Lib.hid hr
  clear h h1 hc hnw hs hr ht
  go_enter Tryz.func76, Tryz.ntmps76
  go_wp2_with fail
  refine HC.out.mono ?_
  rintro r w1 ⟨rfl, q1, ht⟩
  have HT := Lib.hid ht
  clear ht HC
  cases nw with
  | true =>
    have hr := HR.out
    rw [if_pos rfl] at hr
    have HR2 := Lib.hid hr
    clear hr HR
    go_wp2_with fail
    refine (Emit_go g q1 s1 x e1 (some ⟨w1.heap.size, 0, none⟩) 1 1 [c] s' e' _ rfl HR2.out (HT.out.wk.below (below_lit _ _)) (rd_one w1 c) HS.out.1 (by have := HS.out.2; omega)).mono ?_
    rintro r w2 ⟨rfl, q2, ht⟩
    have HT2 := Lib.hid (HT.out.trans (Td.of_below (below_lit _ _) ht))
    clear ht
    go_wp2
    first | go_end0 | go_ret
    exact ⟨rfl, q2, HT2.out⟩
  | false =>
    have hr := HR.out
    rw [if_neg (by decide)] at hr
    have HR2 := Lib.hid hr
    clear hr HR
    go_wp2_with fail
    refine (Emit_go g q1 s1 x e1 (some ⟨w1.heap.size, 0, none⟩) 3 3 [2, c, 12] s' e' _ rfl HR2.out (HT.out.wk.below (below_lit _ _)) (rd_three w1 2 c 12) HS.out.1 (by have := HS.out.2; omega)).mono ?_
    rintro r w2 ⟨rfl, q2, ht⟩
    have HT2 := Lib.hid (HT.out.trans (Td.of_below (below_lit _ _) ht))
    clear ht
    go_wp2
    first | go_end0 | go_ret
    exact ⟨rfl, q2, HT2.out⟩
theorem R8_go (hr : parD x (s, 0) = (s', e')) (h : Dk w g q s x 0) (hsz : x.src.size ≤ 200) :
    Calls Tryz.prog 71 #[.pointer (some ⟨g, 0, none⟩)] w fun r w' => r = .returned (.tuple #[]) ∧ ∃ q', Td g w q s w' q' s' x e' := by
  have H := Lib.hid h
  have c9 := h.pos
  have c15 := h.src
  have hsz2 : x.src.size ≤ maxLen := by unfold maxLen; omega
  injection hr with ha hb
  simp only at ha hb
  obtain ⟨n, hn⟩ : ∃ n : Int, (behind x.src (untilB x.src s.pos 41) : Int) = n := ⟨_, rfl⟩
  rw [hn] at ha
  have HN := Lib.hid hn
  subst ha hb
  clear h hn
  go_enter Tryz.func71, Tryz.ntmps71
  go_wp2_with fail
  go_region_law (first
    | (go_simp; go_at_call 72; refine (L06.Until_any x.src s.pos 41 _ hsz2 (by decide) (by decide)).mono ?_; rw [HN.out]; rintro r w1 ⟨rfl, hb⟩; have HB : Hid (Below w.heap.size w w1) := Lib.hid ((Below.refl _ _).drew.trans hb); have u9 : w1.cell? ⟨g, 9, none⟩ = some (.int .i64 s.pos) := (H.out.below HB.out).pos; have f9 : w1.frozen? ⟨g, 9, none⟩ = false := (H.out.below HB.out).bx.free 9; clear hb))
  all_goals
    have HT9 := Lib.hid ((Td.same (H.out.below HB.out)).place (n := n) ((H.out.below HB.out).bx.setc 9 (.int .i64 n)) (grown_setCell w1 g 9 _))
    have HT := Lib.hid (Td.of_below HB.out HT9.out)
    first | go_end0 | (refine bodyPost_ret (results_none rfl _ _ _) rfl ?_)
    exact ⟨rfl, q, HT.out⟩
theorem R9_go (hr : lineD x (s, 0) = (s', e')) (h : Dk w g q s x 0) (hsz : x.src.size ≤ 200) :
    Calls Tryz.prog 73 #[.pointer (some ⟨g, 0, none⟩)] w fun r w' => r = .returned (.tuple #[]) ∧ ∃ q', Td g w q s w' q' s' x e' := by
  have H := Lib.hid h
  have c9 := h.pos
  have c15 := h.src
  have hsz2 : x.src.size ≤ maxLen := by unfold maxLen; omega
  injection hr with ha hb
  simp only at ha hb
  obtain ⟨n, hn⟩ : ∃ n : Int, (lineR x.src s.pos : Int) = n := ⟨_, rfl⟩
  rw [hn] at ha
  have HN := Lib.hid hn
  subst ha hb
  clear h hn
  go_enter Tryz.func73, Tryz.ntmps73
  go_wp2_with fail
  go_region_law (first
    | (go_simp; go_at_call 74; refine (L06.Line_any x.src s.pos _ hsz2).mono ?_; rw [HN.out]; rintro r w1 ⟨rfl, hb⟩; have HB : Hid (Below w.heap.size w w1) := Lib.hid ((Below.refl _ _).drew.trans hb); have u9 : w1.cell? ⟨g, 9, none⟩ = some (.int .i64 s.pos) := (H.out.below HB.out).pos; have f9 : w1.frozen? ⟨g, 9, none⟩ = false := (H.out.below HB.out).bx.free 9; clear hb))
  all_goals
    have HT9 := Lib.hid ((Td.same (H.out.below HB.out)).place (n := n) ((H.out.below HB.out).bx.setc 9 (.int .i64 n)) (grown_setCell w1 g 9 _))
    have HT := Lib.hid (Td.of_below HB.out HT9.out)
    first | go_end0 | (refine bodyPost_ret (results_none rfl _ _ _) rfl ?_)
    exact ⟨rfl, q, HT.out⟩
end
end Go.Proofs.YtappfhjknihboaaGreatDoor
