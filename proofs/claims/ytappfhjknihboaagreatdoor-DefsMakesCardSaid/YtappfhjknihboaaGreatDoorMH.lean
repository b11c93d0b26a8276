/-  -/
import Derived.Test.YtappfhjknihboaaGreatDoorMB
import Derived.Test.YtappfhjknihboaaGreatDoorMC
import Derived.WalkSpells
import Derived.Outline
import Derived.StillTailTactics
import Derived.Deep.QuietTactic
import Derived.BigQuiet
import Derived.Deep.RegionHeld3

/- Package asm: Up, Patch, Comma; and the reference's. -/
namespace Go.Proofs.YtappfhjknihboaaGreatDoor
open Go.RowKit

theorem and_8 (m : Nat) (h : m < 18446744073709551616) : m &&& 18446744073709551608 = m / 8 * 8 := by
  have e1 : (18446744073709551608 : Nat) = (2 ^ 61 - 1) * 2 ^ 3 := by decide
  have e2 : m / 8 * 8 = m / 2 ^ 3 * 2 ^ 3 := rfl
  rw [e1, e2]
  apply Nat.eq_of_testBit_eq
  intro i
  rw [Nat.testBit_and, Nat.testBit_mul_two_pow, Nat.testBit_mul_two_pow, Nat.testBit_two_pow_sub_one, Nat.testBit_div_two_pow]
  by_cases h3 : 3 ≤ i
  · by_cases h64 : i - 3 < 61
    · simp [h3, h64, show i - 3 + 3 = i by omega]
    · have : m.testBit i = false := Nat.testBit_lt_two_pow (Nat.lt_of_lt_of_le h (by
        have : 2 ^ 64 ≤ 2 ^ i := Nat.pow_le_pow_right (by omega) (by omega)
        simpa using this))
      simp [h3, h64, this, show i - 3 + 3 = i by omega]
  · simp [h3]
theorem i64_andNot7 (x : Int) (h0 : -9223372036854775808 ≤ x) (h1 : x ≤ 9223372036854775807) : bits .andNot .i64 x 7 = x / 8 * 8 := by
  have key : (BitVec.ofInt 64 x &&& ~~~BitVec.ofInt 64 7).toNat = (x % 18446744073709551616).toNat / 8 * 8 := by
    have h7 : (BitVec.ofInt 64 7).toNat = 7 := by decide
    rw [BitVec.toNat_and, BitVec.toNat_not, h7, BitVec.toNat_ofInt]
    show (x % 18446744073709551616).toNat &&& 18446744073709551608 = _
    exact and_8 _ (by omega)
  show IntKind.i64.wrap ((BitVec.ofInt 64 x &&& ~~~BitVec.ofInt 64 7).toNat : Nat) = _
  rw [key, IntKind.wrap_i64]
  omega

theorem Up_any (at_ r : Int) (w : World) (h : upR at_ = r) :
    Calls Tryz.prog 101 #[.int .i64 at_] w fun e w' => e = .returned (.int .i64 r) ∧ w = w' := by
  have e1 : bits .andNot .i64 (wrap64 (wrap64 (at_ + 8) - 1)) 7 = r := by
    rw [i64_andNot7 _ (by unfold wrap64; omega) (by unfold wrap64; omega), ← h]
    unfold upR wrap64
    omega
  go_enter Tryz.func101, Tryz.ntmps101
  go_wp2
  go_ret
  exact ⟨rfl, rfl⟩

set_option maxHeartbeats 1000000 in
theorem Patch_any (q : Ad) (s : Ps) (at_ v : Int) (s' : Ps) (er : Int) (w : World) (hs : patchS s at_ v = s') (he : patchE s at_ = er) (hp : RdP w q s) (hl : s.mem.length ≤ 140737488355328) :
    Calls Tryz.prog 106 #[stV q s, .int .i64 at_, .int .i64 v] w fun e w' => ∃ q', e = .returned (.tuple #[stV q' s', .int .i64 er]) ∧ Res w.heap.size q s w' q' s' ∧ Below w.heap.size w w' := by
  have HP := Lib.hid hp
  have HB0 := Lib.hid (below_two (below_lit w (.cells (stL q s).toArray 28)) (below_lit _ (.cells (stL nilA zeroP).toArray 28)))
  have HM := Lib.hid (hp.mem.below HB0.out)
  have HS := Lib.hid hs
  have HE := Lib.hid (show cellE s.mem.length at_ = er from he)
  clear hp hs he
  rw [stV_eq q s]
  go_enter Tryz.func106, Tryz.ntmps106
  go_wp2_with fail
  refine (SetCell_any q.m q.mc at_ v s.mem _ HM.out hl).mono ?_
  rintro e w1 ⟨x, rfl, ho, hb⟩
  rw [HE.out]
  have HG : Hid (Bx w1 w.heap.size 28 (stL q s)) := Lib.hid (((Bx.new w _ _ _ _ rfl rfl).alloc _).below hb)
  have HR : Hid (Bx w1 (w.heap.size + 1) 28 (stL nilA zeroP)) := Lib.hid ((Bx.new _ _ _ _ _ (by simp) rfl).below hb)
  have HB1 := Lib.hid (below_two HB0.out hb)
  obtain ⟨A', c', rfl, hrd⟩ := Rd.own ho
  have HD := Lib.hid ho
  clear ho hb hrd
  by_cases he : er = 0
  · subst he
    have hs2 : s' = { s with mem := setC s.mem at_ v } := by rw [← HS.out, patchS, if_pos HE.out]
    obtain ⟨m', hm'⟩ : ∃ m', setC s.mem at_ v = m' := ⟨_, rfl⟩
    rw [hm'] at HD hs2 ⊢
    have HM' := Lib.hid (show isB m' by rw [← hm']; exact setC_isB HP.out.memB)
    have HS2 := Lib.hid hs2
    clear hm' hs2
    go_wp2_with (refine wp_storeF rfl 22 _ _ rfl w.heap.size 0 _ rfl rfl rfl 28 (stL q s) HG.out 15 rfl (by decide) info1m ?_)
    intro w2 hg2 hw2
    have HG2 : Hid (Bx w2 w.heap.size 28 (stL { q with m := A', mc := c' } s')) := Lib.hid (by rw [HS2.out]; exact hg2)
    have HR2 := Lib.hid (HR.out.grown hw2 (by omega))
    have HB2 := Lib.hid (below_grown HB1.out HB1.out.size hw2 (Nat.le_refl _))
    have HD2 := Lib.hid (own_keep HD.out hw2 (by simp; omega))
    clear hg2 hw2
    go_wp2_with (first
      | (refine wp_loadS rfl 28 _ rfl w.heap.size rfl 28 (stL { q with m := A', mc := c' } s') _ HG2.out Tryz.underlying28 rfl 15 infoSt rfl ?_)
      | (refine wp_storeS rfl 28 _ _ rfl (w.heap.size + 1) (stL { q with m := A', mc := c' } s') rfl rfl 28 _ HR2.out 15 infoSt rfl rfl rfl ?_))
    intro w3 hr3 hw3
    have HR3 := Lib.hid hr3
    have HB3 := Lib.hid (below_grown HB2.out HB2.out.size hw3 (by omega))
    have HD3 := Lib.hid (own_keep HD2.out hw3 (by simp))
    clear hr3 hw3
    go_wp2
    refine bodyPost_ret (v := .tuple #[stV { q with m := A', mc := c' } s', .int .i64 0]) (results_S Tryz.results106 _ _ _ 28 _ _ rfl HR3.out Tryz.underlying28 rfl 15 infoSt rfl _ rfl) rfl ?_
    refine ⟨_, rfl, ?_, HB3.out⟩
    rw [HS2.out]
    exact ((Res.same w.heap.size HP.out).below HB3.out).withMem (own_rd HD3.out) HM'.out (own_block_ge (own_mono HD3.out (by simp; omega)))
  · have hs2 : s' = zeroP := by rw [← HS.out, patchS, if_neg (by rw [HE.out]; exact he)]
    have b1 : (er != 0) = true := by simpa using he
    subst hs2
    clear he
    go_wp2_with (refine wp_storeS rfl 28 _ _ rfl (w.heap.size + 1) (stL nilA zeroP) rfl rfl 28 _ HR.out 15 infoSt rfl rfl rfl ?_)
    intro w3 hr3 hw3
    have HR3 := Lib.hid hr3
    have HB3 := Lib.hid (below_grown HB1.out HB1.out.size hw3 (by omega))
    clear hr3 hw3
    go_wp2
    refine bodyPost_ret (v := .tuple #[stV nilA zeroP, .int .i64 er]) (results_S Tryz.results106 _ _ _ 28 _ _ rfl HR3.out Tryz.underlying28 rfl 15 infoSt rfl _ rfl) rfl ?_
    exact ⟨_, rfl, Res.zero _ _ _ _, HB3.out⟩

set_option maxHeartbeats 2000000 in
theorem Comma_any (q : Ad) (s : Ps) (v : Int) (s' : Ps) (er : Int) (w : World) (hs : commaS s v = s') (he : commaE s = er) (hp : RdP w q s) (hl : s.mem.length ≤ 140737488355328) :
    Calls Tryz.prog 54 #[stV q s, .int .i64 v] w fun e w' => ∃ q', e = .returned (.tuple #[stV q' s', .int .i64 er]) ∧ Res w.heap.size q s w' q' s' ∧ Below w.heap.size w w' := by
  have HB0 := Lib.hid (below_two (below_lit w (.cells (stL q s).toArray 28)) (below_lit _ (.cells (stL nilA zeroP).toArray 28)))
  have HP := Lib.hid (hp.below HB0.out)
  have HPw := Lib.hid hp
  have HS := Lib.hid hs
  have HE := Lib.hid he
  clear hp hs he
  by_cases hfull : (s.mem.length : Int) - 8 < s.here
  · obtain rfl : er = -8 := by rw [← HE.out, commaE, if_pos hfull]
    obtain rfl : s' = zeroP := by rw [← HS.out, commaS, HE.out]; rfl
    have HR : Hid (Bx ((w.alloc (.cells (stL q s).toArray 28)).alloc (.cells (stL nilA zeroP).toArray 28)) (w.heap.size + 1) 28 (stL nilA zeroP)) := Lib.hid (Bx.new _ _ _ _ _ (by simp) rfl)
    rw [stV_eq q s]
    go_enter Tryz.func54, Tryz.ntmps54
    go_wp2_with (refine wp_storeS rfl 28 _ _ rfl (w.heap.size + 1) (stL nilA zeroP) rfl rfl 28 _ HR.out 15 infoSt rfl rfl rfl ?_)
    intro w3 hr3 hw3
    have HR3 := Lib.hid hr3
    have HB3 := Lib.hid (below_grown HB0.out HB0.out.size hw3 (by omega))
    clear hr3 hw3
    go_wp2
    refine bodyPost_ret (v := .tuple #[stV nilA zeroP, .int .i64 (-8)]) (results_S Tryz.results54 _ _ _ 28 _ _ rfl HR3.out Tryz.underlying28 rfl 15 infoSt rfl _ rfl) rfl ?_
    exact ⟨_, rfl, Res.zero _ _ _ _, HB3.out⟩
  · have HE2 := Lib.hid (show patchE s s.here = er by have := HE.out; rw [commaE, if_neg hfull] at this; exact this)
    rw [stV_eq q s]
    go_enter Tryz.func54, Tryz.ntmps54
    have HG0 : Hid (Bx ((w.alloc (.cells (stL q s).toArray 28)).alloc (.cells (stL nilA zeroP).toArray 28)) w.heap.size 28 (stL q s)) := Lib.hid ((Bx.new w _ _ _ _ rfl rfl).alloc _)
    go_wp2_with (refine wp_loadS rfl 28 _ rfl w.heap.size rfl 28 (stL q s) _ HG0.out Tryz.underlying28 rfl 15 infoSt rfl ?_)
    refine (Patch_any q s s.here v _ er _ rfl HE2.out HP.out hl).mono ?_
    rintro e w1 ⟨q1, rfl, hp1, hb⟩
    have HG := Lib.hid (HG0.out.below hb)
    have HR : Hid (Bx w1 (w.heap.size + 1) 28 (stL nilA zeroP)) := Lib.hid ((Bx.new _ _ _ _ _ (by simp) rfl).below hb)
    have HB1 := Lib.hid (below_two HB0.out hb)
    have HP1 := Lib.hid (hp1.mono (by simp : w.heap.size + 2 ≤ _))
    clear hb hp1
    have HF := Lib.hid hfull
    clear hfull
    go_wp2_with (refine wp_storeS rfl 28 _ _ rfl w.heap.size (stL q1 (patchS s s.here v)) rfl rfl 28 _ HG.out 15 infoSt rfl rfl rfl ?_)
    intro w2 hg2 hw2
    have HG2 := Lib.hid hg2
    have HR2 := Lib.hid (HR.out.grown hw2 (by omega))
    have HB2 := Lib.hid (below_grown HB1.out HB1.out.size hw2 (Nat.le_refl _))
    have HP2 := Lib.hid (HP1.out.grown HPw.out hw2 (Nat.le_refl _) (by omega))
    clear hg2 hw2
    by_cases h0 : er = 0
    · subst h0
      have e1 : s' = { patchS s s.here v with here := s.here + 8 } := by rw [← HS.out, commaS_ok HE.out]
      have e2 := patchS_here (v := v) HE2.out
      have hr := cellE_zero HE2.out
      generalize patchS s s.here v = s1 at *
      have h8 : w2.cell? ⟨w.heap.size, 8, none⟩ = some (.int .i64 s.here) := by rw [HG2.out.cell 8, ← e2]; rfl
      have HE1 := Lib.hid e1
      have HH := Lib.hid e2
      clear e1 e2
      go_wp2_with (refine wp_storeF rfl 3 _ _ rfl w.heap.size 8 _ rfl rfl rfl 28 _ HG2.out 15 rfl (by decide) info1i ?_)
      intro w3 hg3 hw3
      have HG3 : Hid (Bx w3 w.heap.size 28 (stL q1 s')) := Lib.hid (by rw [HE1.out]; exact hg3)
      have HR3 := Lib.hid (HR2.out.grown hw3 (by omega))
      have HB3 := Lib.hid (below_grown HB2.out HB2.out.size hw3 (Nat.le_refl _))
      have HP3 := Lib.hid (HP2.out.grown HPw.out hw3 (Nat.le_refl _) (by omega))
      clear hg3 hw3 h8
      go_wp2_with (first
        | (refine wp_loadS rfl 28 _ rfl w.heap.size rfl 28 (stL q1 s') _ HG3.out Tryz.underlying28 rfl 15 infoSt rfl ?_)
        | (refine wp_storeS rfl 28 _ _ rfl (w.heap.size + 1) (stL q1 s') rfl rfl 28 _ HR3.out 15 infoSt rfl rfl rfl ?_))
      intro w4 hr4 hw4
      have HR4 := Lib.hid hr4
      have HB4 := Lib.hid (below_grown HB3.out HB3.out.size hw4 (by omega))
      have HP4 := Lib.hid (HP3.out.grown HPw.out hw4 (by omega) (by omega))
      clear hr4 hw4
      go_wp2
      refine bodyPost_ret (v := .tuple #[stV q1 s', .int .i64 0]) (results_S Tryz.results54 _ _ _ 28 _ _ rfl HR4.out Tryz.underlying28 rfl 15 infoSt rfl _ rfl) rfl ?_
      refine ⟨_, rfl, ?_, HB4.out⟩
      rw [HE1.out]
      exact (HP4.out.withHere _).mono (by omega)
    · have b1 : (er == 0) = false := by simpa using h0
      have e1 : s' = zeroP := by rw [← HS.out, commaS_no (by rw [HE.out]; exact h0)]
      have e2 : patchS s s.here v = zeroP := patchS_no (by rw [HE2.out]; exact h0)
      rw [e2] at HG2 HP2
      subst e1
      clear e2 h0
      go_wp2_with (first
        | (refine wp_loadS rfl 28 _ rfl w.heap.size rfl 28 _ _ HG2.out Tryz.underlying28 rfl 15 infoSt rfl ?_)
        | (refine wp_storeS rfl 28 _ _ rfl (w.heap.size + 1) (stL q1 zeroP) rfl rfl 28 _ HR2.out 15 infoSt rfl rfl rfl ?_))
      intro w4 hr4 hw4
      have HR4 := Lib.hid hr4
      have HB4 := Lib.hid (below_grown HB2.out HB2.out.size hw4 (by omega))
      have HP4 := Lib.hid (HP2.out.grown HPw.out hw4 (by omega) (by omega))
      clear hr4 hw4
      go_wp2
      refine bodyPost_ret (v := .tuple #[stV q1 zeroP, .int .i64 er]) (results_S Tryz.results54 _ _ _ 28 _ _ rfl HR4.out Tryz.underlying28 rfl 15 infoSt rfl _ rfl) rfl ?_
      exact ⟨_, rfl, HP4.out.mono (by omega), HB4.out⟩
end Go.Proofs.YtappfhjknihboaaGreatDoor


/- Spots (api.Spot): cloned, looked through, some taken out. -/
namespace Go.Proofs.YtappfhjknihboaaGreatDoor
open Go.RowKit

def idxR (n k : Nat) : Int := if k < n then k else -1
theorem ecells_one_sp (l : List (Int × Int)) : ∀ u ∈ ecells encSp l, u.oneCell' = true := by
  intro u hu
  obtain ⟨x, _, hx⟩ := List.mem_flatMap.1 hu
  simp [encSp] at hx
  rcases hx with rfl | rfl <;> rfl

set_option maxHeartbeats 1000000 in
theorem CloneS_any (A : Option Addr) (c n : Nat) (l : List (Int × Int)) (w : World) (hn : l.length = n) (hx : RdE w encSp 2 A c l) (hl : n * 16 ≤ 140737488355328) :
    Calls Tryz.prog 126 #[.slice A n c] w fun e w' => ∃ x, e = .returned x ∧ w'.ownsRow w.heap.size 101 2 x n (ecells encSp l) ∧ Below w.heap.size w w' := by
  have q22 : ∀ (w : World) (a : Option Addr) (n c n' c' : Nat), (binOp .eql 26 (.slice a n c) (.slice none n' c')).run Tryz.prog w = .ok (.bool a.isNone) w := fun w a n c n' c' => Lib.run_eql_slice_nil w _ _ a n c n' c' Tryz.underlying26
  cases A with
  | none =>
    have h1 := hx.nil rfl
    have h2 := hx.le
    obtain rfl : l = [] := List.eq_nil_of_length_eq_zero (by omega)
    obtain rfl : n = 0 := by simpa using hn.symm
    subst h1
    clear hx h2
    go_enter Tryz.func126, Tryz.ntmps126
    go_wp2
    go_ret
    exact ⟨_, rfl, ⟨rfl, .inl ⟨rfl, rfl⟩⟩, Below.refl _ _⟩
  | some ad =>
    have HX := Lib.hid (hx.below (below_lit w (.cells #[] 101)))
    have HO : Hid ((w.alloc (.cells #[] 101)).ownsRow w.heap.size 101 2 (.slice (some ⟨w.heap.size, 0, none⟩) 0 0) 0 []) := Lib.hid (own_empty (heap_alloc_new _ _) (Nat.le_refl _))
    have HB := Lib.hid (below_lit w (.cells #[] 101))
    subst hn
    clear hx
    go_enter Tryz.func126, Tryz.ntmps126
    go_wp2_with (refine wp_app (w0 := w) rfl (.tmp 5) (.tmp 6) 26 101 _ 2 16 rfl Tryz.underlying26 infoSp rfl (by decide) (by decide) w.heap.size _ 0 [] rfl HO.out (some ad) l.length c (ecells encSp l) rfl HX.out (ecells_one_sp l) (by omega) HB.out.size HB.out ?_)
    intro v1 w1 ho hb _
    have HO2 := Lib.hid ho
    have HB2 := Lib.hid hb
    clear ho hb
    go_wp2
    go_ret
    exact ⟨_, rfl, by simpa using HO2.out, HB2.out⟩

set_option maxHeartbeats 1000000 in
theorem Emit1_any (x : Int × Int) (at_ : Int) (b : Bool) (p : Addr) (w : World) (hb : decide (at_ ≤ x.1) = b) (hp : w.cell? p = some (.int .i64 at_)) :
    Calls Tryz.prog 127 #[.agg #[.int .i64 x.1, .int .i64 x.2], .pointer (some p)] w fun e w' => e = .returned (.bool b) ∧ Below w.heap.size w w' := by
  have hp2 : (w.alloc (.cells #[.int .i64 x.1, .int .i64 x.2] 101)).cell? p = some (.int .i64 at_) := (below_lit w _).cell (World.block_lt_of_cell? w _ hp) |>.trans hp
  subst hb
  go_enter Tryz.func127, Tryz.ntmps127
  go_wp2
  go_ret
  exact ⟨rfl, below_lit _ _⟩

set_option maxHeartbeats 1000000 in
theorem IndexFuncS_any (A : Option Addr) (c n : Nat) (l : List (Int × Int)) (at_ : Int) (p : Addr) (r : Int) (w : World) (hn : l.length = n) (hr : idxR n (l.findIdx fun x => decide (at_ ≤ x.1)) = r) (hx : 0 < n → ∃ ad, A = some ad ∧ CellsE w encSp 2 ad l) (hc : n ≤ 1000000) (hp : w.cell? p = some (.int .i64 at_)) :
    Calls Tryz.prog 141 #[.slice A n c, .func (.func 127) #[] #[.pointer (some p)]] w fun e w' => e = .returned (.int .i64 r) ∧ Below w.heap.size w w' := by
  have HX := Lib.hid hx
  have HP := Lib.hid hp
  have HN := Lib.hid hn
  have HR := Lib.hid hr
  clear hx hp hn hr
  go_enter Tryz.func141, Tryz.ntmps141
  go_wp2_with fail
  go_loopw [8] (fun i wr => ∃ k : Nat, i = .int .i64 k ∧ k ≤ n ∧ Hid (∀ j, j < k → decide (at_ ≤ (l[j]!).1) = false) ∧ Hid (Below w.heap.size w wr)) (fun i _ => n - (intOf i).toNat)
  case atStart => exact ⟨0, rfl, by omega, Lib.hid (fun j hj => by omega), Lib.hid (Below.refl _ _)⟩
  case round =>
    obtain ⟨k, rfl, hk, HF, HB⟩ := hrel
    by_cases hlt : k < n
    · obtain ⟨ad, rfl, hcell⟩ := HX.out (by omega)
      have hlt2 : k < l.length := by rw [HN.out]; exact hlt
      have c0 := (hcell.below HB.out).at0 hlt2 (v := .int .i64 (l[k]!).1) rfl
      have c1 := (hcell.below HB.out).at' hlt2 1 (by decide) (v := .int .i64 (l[k]!).2) rfl
      have hpw := (HB.out.cell (World.block_lt_of_cell? w _ HP.out)).trans HP.out
      have HPW := Lib.hid hpw
      obtain ⟨x, hxk⟩ : ∃ x, l[k]! = x := ⟨_, rfl⟩
      rw [hxk] at c0 c1
      have HK := Lib.hid hxk
      obtain ⟨b, hb⟩ : ∃ b, decide (at_ ≤ x.1) = b := ⟨_, rfl⟩
      have HBB := Lib.hid hb
      clear hxk hcell hb hpw hlt2
      go_wp2_with fail
      refine (Emit1_any x at_ b p _ HBB.out HPW.out).mono ?_
      rintro e w2 ⟨rfl, hb⟩
      have HB2 := Lib.hid (below_two HB.out hb)
      clear hb c0 c1
      cases b with
      | true =>
        have hf : r = (k : Int) := by
          have hlt2 : k < l.length := by rw [HN.out]; exact hlt
          rw [← HR.out, idxR]
          have : l.findIdx (fun x => decide (at_ ≤ x.1)) = k := by
            rw [List.findIdx_eq hlt2]
            have e1 := HK.out
            rw [getElem!_pos l k hlt2] at e1
            refine ⟨by rw [e1]; exact HBB.out, fun j hj => ?_⟩
            have e2 := HF.out j hj
            rw [getElem!_pos l j (by omega)] at e2
            exact e2
          rw [this, if_pos hlt]
        have HF2 := Lib.hid hf
        clear hf
        go_wp2
        go_ret
        exact ⟨by rw [HF2.out]; rfl, HB2.out⟩
      | false =>
        go_wp2
        go_roundw
        case rel => exact ⟨k + 1, by go_num, by omega, Lib.hid (fun j hj => by
          rcases Nat.lt_or_ge j k with h1 | h1
          · exact HF.out j h1
          · obtain rfl : j = k := by omega
            rw [HK.out]; exact HBB.out), HB2⟩
        case measure => simp [intOf] <;> omega
    · obtain rfl : k = n := by omega
      have hf : r = -1 := by
        rw [← HR.out, idxR, if_neg]
        have : l.findIdx (fun x => decide (at_ ≤ x.1)) = l.length := by
          apply List.findIdx_eq_length.2
          intro x hx
          obtain ⟨j, hj, rfl⟩ := List.getElem_of_mem hx
          have := HF.out j (by rw [← HN.out]; exact hj)
          rw [getElem!_pos l j hj] at this
          exact this
        rw [this, HN.out]
        omega
      have HF2 := Lib.hid hf
      clear hf
      go_wp2
      go_ret
      exact ⟨by rw [HF2.out]; rfl, HB.out⟩

theorem slS_lo (g n c i : Nat) (w : World) (h : i ≤ n) (h2 : i < c) : (Instr.sliceAt 26 (.slice (some ⟨g, 0, none⟩) n c) (some (.int .i64 i)) none none).run Tryz.prog w = .ok (.slice (some ⟨g, i * 2, none⟩) (n - i) (c - i)) w := by
  have e2 : Tryz.prog.elem 26 = 101 := by kernel_rfl
  have ht : Tryz.prog.underlying 26 = some (.slice (Tryz.prog.elem 26)) := by rw [e2]; exact Tryz.underlying26
  rw [run_sliceAt_slice _ _ _ _ _ _ ht, run_slice_l _ _ _ _ _ ht .i64 i (by omega) (by omega), e2, Tryz.sizeOf101 w]
  simp only [Result.andThen, sliced, Int.toNat_natCast]
  rw [if_neg (by omega)]
  simp [Addr.add_lit]
theorem slS_hi (g n c i : Nat) (w : World) (h : i ≤ c) : (Instr.sliceAt 26 (.slice (some ⟨g, 0, none⟩) n c) none (some (.int .i64 i)) none).run Tryz.prog w = .ok (.slice (some ⟨g, 0, none⟩) i c) w := by
  have e2 : Tryz.prog.elem 26 = 101 := by kernel_rfl
  have ht : Tryz.prog.underlying 26 = some (.slice (Tryz.prog.elem 26)) := by rw [e2]; exact Tryz.underlying26
  rw [run_sliceAt_slice _ _ _ _ _ _ ht, run_slice_h _ _ _ _ _ ht .i64 i (by omega) (by omega), e2, Tryz.sizeOf101 w]
  simp only [Result.andThen, sliced, Int.toNat_natCast]
  by_cases h0 : c = 0
  · rw [if_pos (by omega)]
    simp
  · rw [if_neg (by omega)]
    simp [Addr.add]

/-- Those that stay. -/
def keepS (at_ : Int) (x : Int × Int) : Bool := decide (x.1 < at_)
theorem keepS_not (at_ : Int) (x : Int × Int) : keepS at_ x = !decide (at_ ≤ x.1) := by
  unfold keepS
  by_cases h : x.1 < at_
  · rw [decide_eq_true h, decide_eq_false (by omega)]; rfl
  · rw [decide_eq_false h, decide_eq_true (by omega)]; rfl
theorem filter_all {α : Type} (p : α → Bool) (l : List α) (h : ∀ x ∈ l, p x = true) : l.filter p = l := List.filter_eq_self.2 h
theorem take_succ' {α : Type} [Inhabited α] (l : List α) (j : Nat) (h : j < l.length) : l.take (j + 1) = l.take j ++ [l[j]!] := by
  rw [List.take_succ_eq_append_getElem h, getElem!_pos l j h]

/-- Where DeleteFunc stands: i of the first j have stayed. -/
structure Dl (l : List (Int × Int)) (at_ : Int) (cs : List Value) (n L i j : Nat) : Prop where
  len : cs.length = L
  lt : i < j
  le : j ≤ n
  cnt : ((l.take j).filter (keepS at_)).length = i
  front : cs.take (i * 2) = ecells encSp ((l.take j).filter (keepS at_))
  rest : ∀ k c, j ≤ k → k < n → c < 2 → cs[k * 2 + c]? = (encSp l[k]!)[c]?
theorem Dl.start {l : List (Int × Int)} {at_ : Int} {cs : List Value} {n L k : Nat} (hn : l.length = n) (hk : (l.findIdx fun x => decide (at_ ≤ x.1)) = k) (hkn : k < n) (hL : cs.length = L) (hc : cs.take (n * 2) = ecells encSp l) : Dl l at_ cs n L k (k + 1) := by
  have hk2 : k < l.length := by omega
  have hall : (l.take k).filter (keepS at_) = l.take k := by
    apply filter_all
    intro x hx
    obtain ⟨j, hj, rfl⟩ := List.getElem_of_mem hx
    have hj2 : j < k := by rw [List.length_take] at hj; omega
    rw [keepS_not, List.getElem_take]
    have := List.not_of_lt_findIdx (p := fun x : Int × Int => decide (at_ ≤ x.1)) (xs := l) (i := j) (by omega)
    simpa using this
  have hat : keepS at_ l[k]! = false := by
    rw [keepS_not, getElem!_pos l k hk2]
    have := (List.findIdx_eq hk2).1 hk
    rw [this.1]
    rfl
  have hf : (l.take (k + 1)).filter (keepS at_) = l.take k := by
    rw [take_succ' l k hk2, List.filter_append, hall]
    rw [List.filter_cons_of_neg (by rw [hat]; decide)]
    simp
  refine ⟨hL, by omega, by omega, by rw [hf, List.length_take]; omega, ?_, fun j c h1 h2 h3 => ?_⟩
  · rw [hf, ecells_take encSp_len, ← hc, List.take_take, Nat.min_eq_left (by omega)]
  · rw [← ecells_get encSp_len l j c (by omega) h3, ← hc, List.getElem?_take_of_lt (by omega)]
theorem Dl.drop {l : List (Int × Int)} {at_ : Int} {cs : List Value} {n L i j : Nat} (h : Dl l at_ cs n L i j) (hn : l.length = n) (hj : j < n) (hk : keepS at_ l[j]! = false) : Dl l at_ cs n L i (j + 1) := by
  have hf : (l.take (j + 1)).filter (keepS at_) = (l.take j).filter (keepS at_) := by
    rw [take_succ' l j (by omega), List.filter_append, List.filter_cons_of_neg (by rw [hk]; decide)]
    simp
  exact ⟨h.len, by have := h.lt; omega, by omega, by rw [hf]; exact h.cnt, by rw [hf]; exact h.front, fun k c h1 h2 h3 => h.rest k c (by omega) h2 h3⟩
theorem Dl.keep {l : List (Int × Int)} {at_ : Int} {cs : List Value} {n L i j : Nat} (h : Dl l at_ cs n L i j) (hn : l.length = n) (hj : j < n) (hnL : n * 2 ≤ L) (hk : keepS at_ l[j]! = true) : Dl l at_ (splice cs (i * 2) (encSp l[j]!)) n L (i + 1) (j + 1) := by
  have hf : (l.take (j + 1)).filter (keepS at_) = (l.take j).filter (keepS at_) ++ [l[j]!] := by
    rw [take_succ' l j (by omega), List.filter_append, List.filter_cons_of_pos hk]
    simp
  have hlt := h.lt
  have hlen := h.len
  have e2 : (encSp l[j]!).length = 2 := rfl
  refine ⟨by rw [length_splice _ _ _ (by rw [e2]; omega)]; exact hlen, by omega, by omega, by rw [hf, List.length_append, h.cnt]; rfl, ?_, fun k c h1 h2 h3 => ?_⟩
  · rw [hf, ecells_app, ← h.front]
    unfold splice
    rw [← List.append_assoc]
    have e3 : (cs.take (i * 2) ++ encSp l[j]!).length = (i + 1) * 2 := by rw [List.length_append, List.length_take, e2]; omega
    rw [List.take_append_of_le_length (by omega), List.take_of_length_le (by omega)]
    simp [ecells]
  · rw [← h.rest k c (by omega) h2 h3]
    unfold splice
    rw [List.getElem?_append_right (by rw [List.length_take]; omega), List.getElem?_append_right (by rw [List.length_take, e2]; omega), List.getElem?_drop]
    congr 1
    rw [List.length_take, e2]
    omega

set_option maxHeartbeats 2000000 in
theorem DeleteS_any (B : Nat) (x : Value) (n : Nat) (l : List (Int × Int)) (at_ : Int) (p : Addr) (m : List (Int × Int)) (w : World) (hn : l.length = n) (hm : l.filter (keepS at_) = m) (h : w.ownsRow B 101 2 x n (ecells encSp l)) (hc : n ≤ 1000000) (hp : w.cell? p = some (.int .i64 at_)) (hpB : p.block < B) (hBw : B ≤ w.heap.size) :
    Calls Tryz.prog 125 #[x, .func (.func 127) #[] #[.pointer (some p)]] w fun e w' => ∃ x', e = .returned x' ∧ w'.ownsRow B 101 2 x' m.length (ecells encSp m) ∧ Below B w w' := by
  have HN := Lib.hid hn
  have HM := Lib.hid hm
  have HO := Lib.hid h
  have HP := Lib.hid hp
  obtain ⟨A, c, rfl, hr⟩ := Rd.own h
  have HR := Lib.hid (show RdE w encSp 2 A c l by rw [← hn] at hr; exact hr)
  clear hn hm h hp hr
  have hle : (l.findIdx fun x => decide (at_ ≤ x.1)) ≤ n := by rw [← HN.out]; exact List.findIdx_le_length
  obtain ⟨k, hk⟩ : ∃ k, (l.findIdx fun x => decide (at_ ≤ x.1)) = k := ⟨_, rfl⟩
  rw [hk] at hle
  have HK := Lib.hid hk
  clear hk
  by_cases hkn : k < n
  · have hcall := IndexFuncS_any A c n l at_ p k w HN.out (by rw [HK.out, idxR, if_pos hkn]) (fun h0 => HR.out.all encSp_len (by decide) (by rw [HN.out]; exact h0)) hc HP.out
    have HCALL := Lib.hid hcall
    clear hcall
    obtain ⟨g, L, cs, hA, hgB, hbx, hL, hcs, hnL, hcap⟩ : ∃ g L cs, A = some ⟨g, 0, none⟩ ∧ B ≤ g ∧ Bx w g 101 cs ∧ cs.length = L ∧ cs.take (n * 2) = ecells encSp l ∧ n * 2 ≤ L ∧ (n ≤ c ∧ c ≤ maxLen ∧ L = c * 2) := by
      rcases HO.out.2 with ⟨_, h0⟩ | ⟨g, cap, cur, e1, hg, hh, hn, hm, hs, ht⟩
      · omega
      · injection e1 with e1 e2 e3
        subst e3
        exact ⟨g, cur.toList.length, cur.toList, e1, hg, hh, rfl, ht, by simp [hs]; omega, hn, hm, by simp [hs]⟩
    subst hA
    obtain ⟨hc1, hc2, hc3⟩ := hcap
    unfold maxLen at hc2
    have HD0 := Lib.hid (Dl.start HN.out HK.out hkn hL hcs)
    have HBX := Lib.hid hbx
    have hk1 : ((k : Int) == -1) = false := by simp
    clear hbx hL hcs HK
    go_enter Tryz.func125, Tryz.ntmps125
    go_wp2_with fail
    refine HCALL.out.mono ?_
    rintro e w1 ⟨rfl, hb⟩
    have HB1 := Lib.hid (hb.mono hBw)
    have HBX1 := Lib.hid (HBX.out.below hb)
    clear hb
    go_wp2_with fail
    go_loopw [5, 6] (fun x y wr => ∃ i j cs, x = .int .i64 (i : Nat) ∧ y = .int .i64 (j : Nat) ∧ i < j ∧ j ≤ n ∧ Hid (Dl l at_ cs n L i j) ∧ Hid (Bx wr g 101 cs) ∧ Hid (Below B w wr)) (fun _ y _ => n - (intOf y).toNat)
    case atStart => exact ⟨k, k + 1, cs, rfl, by go_num, by omega, by omega, HD0, HBX1, HB1⟩
    case round =>
      obtain ⟨i, j, cs, rfl, rfl, hij, hjn, HD, HX, HB⟩ := hrel
      by_cases hj : j < n
      · have c0 : wr.cell? ⟨g, j * 2, none⟩ = some (.int .i64 (l[j]!).1) := by
          have := HD.out.rest j 0 (Nat.le_refl _) hj (by decide)
          rw [HX.out.cell (j * 2)]
          exact this
        have c1 : wr.cell? ⟨g, j * 2 + 1, none⟩ = some (.int .i64 (l[j]!).2) := by
          rw [HX.out.cell (j * 2 + 1)]
          exact HD.out.rest j 1 (Nat.le_refl _) hj (by decide)
        obtain ⟨x, hx⟩ : ∃ x, l[j]! = x := ⟨_, rfl⟩
        rw [hx] at c0 c1
        have HXJ := Lib.hid hx
        obtain ⟨b, hb⟩ : ∃ b, decide (at_ ≤ x.1) = b := ⟨_, rfl⟩
        have HBB := Lib.hid hb
        have hbl := HB.out.alloc (Nat.le_trans hBw HB.out.size) (.cells #[.int .i64 x.1, .int .i64 x.2] 101)
        have HPW : Hid ((wr.alloc (.cells #[.int .i64 x.1, .int .i64 x.2] 101)).cell? p = some (.int .i64 at_)) := Lib.hid (by
          have h1 := HB.out.cell hpB
          rw [HP.out] at h1
          exact ((below_lit wr _).cell (World.block_lt_of_cell? wr _ h1)).trans h1)
        have HX1 := Lib.hid (HX.out.alloc (.cells #[.int .i64 x.1, .int .i64 x.2] 101))
        have HV : Hid (Bx (wr.alloc (.cells #[.int .i64 x.1, .int .i64 x.2] 101)) wr.heap.size 101 (encSp x)) := Lib.hid (Bx.new wr _ _ _ _ rfl rfl)
        have HBL := Lib.hid hbl
        have hgw : g < wr.heap.size := HX.out.lt
        clear hx hb hbl
        go_wp2_with fail
        refine (Emit1_any x at_ b p _ HBB.out HPW.out).mono ?_
        rintro e w2 ⟨rfl, hb⟩
        have HX2 := Lib.hid (HX1.out.below hb)
        have HV2 := Lib.hid (HV.out.below hb)
        have HB2 := Lib.hid (HBL.out.trans (hb.mono (Nat.le_trans hBw (Nat.le_trans HB.out.size (by simp)))))
        clear hb c0 c1 HPW
        cases b with
        | true =>
          have HD2 : Hid (Dl l at_ cs n L i (j + 1)) := Lib.hid (HD.out.drop HN.out hj (by rw [HXJ.out, keepS_not, HBB.out]; rfl))
          go_wp2
          go_roundw
          case rel => exact ⟨i, j + 1, cs, rfl, by go_num, by omega, by omega, HD2, HX2, HB2⟩
          case measure => simp [intOf] <;> omega
        | false =>
          have HD2 : Hid (Dl l at_ (splice cs (i * 2) (encSp x)) n L (i + 1) (j + 1)) := Lib.hid (by
            have := HD.out.keep HN.out hj hnL (by rw [HXJ.out, keepS_not, HBB.out]; rfl)
            rw [HXJ.out] at this
            exact this)
          have hcl : i * 2 + 2 ≤ cs.length := by rw [HD.out.len]; omega
          go_wp2_with (first
            | (refine wp_loadS rfl 101 _ rfl wr.heap.size rfl 101 _ _ HV2.out Tryz.underlying101 rfl 2 (by kernel_rfl) rfl ?_)
            | (refine wp_storeM rfl 101 _ _ rfl g (i * 2) (encSp x) rfl rfl rfl 101 cs HX2.out 2 rfl hcl (by kernel_rfl) ?_))
          intro w3 hx3 hw3
          have HX3 := Lib.hid hx3
          have HB3 := Lib.hid (below_grown HB2.out (Nat.le_trans hBw HB2.out.size) hw3 hgB)
          clear hx3 hw3
          go_wp2
          go_roundw
          case rel => exact ⟨i + 1, j + 1, _, by go_num, by go_num, by omega, by omega, HD2, HX3, HB3⟩
          case measure => simp [intOf] <;> omega
      · obtain rfl : j = n := by omega
        have hsl := fun w => slS_lo g j c i w (by omega) (by omega)
        have hsh := fun w => slS_hi g j c i w (by omega)
        have hzv : ∀ w, (zeroValue 101).run Tryz.prog w = .ok (.agg #[.int .i64 0, .int .i64 0]) w := fun w => Tryz.zeroValue101 w
        have hcl : i * 2 + (j - i) * 2 ≤ cs.length := by rw [HD.out.len]; omega
        go_wp2_with (refine wp_clear rfl _ 26 101 rfl Tryz.underlying26 _ hzv 2 rfl (by decide) g (i * 2) (j - i) (c - i) rfl (by omega) 101 cs HX.out hcl ?_)
        intro w4 cs4 hx4 hl4 ht4 hw4
        have HX4 := Lib.hid hx4
        have HB4 := Lib.hid (below_grown HB.out (Nat.le_trans hBw HB.out.size) hw4 hgB)
        have HT4 := Lib.hid ht4
        have HL4 := Lib.hid hl4
        clear hx4 hl4 ht4 hw4
        have hmm : (l.take j).filter (keepS at_) = m := by rw [← HM.out, List.take_of_length_le (by rw [HN.out]; exact Nat.le_refl _)]
        have HMM := Lib.hid hmm
        clear hmm
        go_wp2
        go_ret
        have hcnt := HD.out.cnt
        have hfr := HD.out.front
        rw [HMM.out] at hcnt hfr
        refine ⟨_, rfl, ⟨by rw [ecells_len encSp_len], .inr ⟨g, c, cs4.toArray, by rw [hcnt]; rfl, hgB, HX4.out, by rw [hcnt]; omega, by unfold maxLen; omega, ?_, ?_⟩⟩, HB4.out⟩
        · rw [List.size_toArray, HL4.out, HD.out.len, hc3]
        · rw [hcnt]
          show cs4.take (i * 2) = _
          rw [HT4.out, hfr]
  · obtain rfl : k = n := by omega
    have hcall := IndexFuncS_any A c k l at_ p (-1) w HN.out (by rw [HK.out, idxR, if_neg (by omega)]) (fun h0 => HR.out.all encSp_len (by decide) (by rw [HN.out]; exact h0)) hc HP.out
    have HCALL := Lib.hid hcall
    clear hcall
    have hm : m = l := by
      rw [← HM.out]
      apply filter_all
      intro y hy
      rw [keepS_not]
      have hk2 : (l.findIdx fun x => decide (at_ ≤ x.1)) = l.length := by rw [HK.out, HN.out]
      have := List.findIdx_eq_length.1 hk2 y hy
      rw [this]
      rfl
    have HMM := Lib.hid hm
    clear hm
    go_enter Tryz.func125, Tryz.ntmps125
    go_wp2_with fail
    refine HCALL.out.mono ?_
    rintro e w1 ⟨rfl, hb⟩
    have HB1 := Lib.hid hb
    have HO1 := Lib.hid (own_below HO.out hb)
    clear hb
    go_wp2
    go_ret
    refine ⟨_, rfl, ?_, HB1.out.mono hBw⟩
    rw [HMM.out, HN.out]
    exact HO1.out
end Go.Proofs.YtappfhjknihboaaGreatDoor


/- asm.Emit. -/
namespace Go.Proofs.YtappfhjknihboaaGreatDoor
open Go.RowKit

theorem layS_spots {s : Ps} {v : Int} (h : commaE s = 0) : (layS s v).spots.length ≤ s.spots.length + 1 := by
  rw [layS_rest h]
  have := List.length_filter_le (fun x : Int × Int => decide (x.1 < s.here)) s.spots
  simp
  omega
theorem commaS_spots {s : Ps} {v : Int} (h : commaE s = 0) : (commaS s v).spots = s.spots ∧ (commaS s v).tok = s.tok := by
  rw [commaS, if_pos h]
  exact ⟨rfl, rfl⟩
/-- Where Emit stands. -/
structure Em (s : Ps) (l : List Int) (s' : Ps) (er : Int) (k : Nat) (s1 : Ps) : Prop where
  st : emitS s1 (l.drop k) = s'
  er : emitE s1 (l.drop k) = er
  mem : s1.mem.length = s.mem.length
  spots : s1.spots.length ≤ s.spots.length + k
theorem Em.next {s : Ps} {l : List Int} {s' : Ps} {er : Int} {k : Nat} {s1 : Ps} (h : Em s l s' er k s1) (hk : k < l.length) (h0 : commaE s1 = 0) : Em s l s' er (k + 1) (layS s1 (l.getD k 0)) := by
  have e := drop_cons (l := l) (k := k) hk
  refine ⟨?_, ?_, by rw [layS_mem h0]; exact h.mem, by have := layS_spots (v := l.getD k 0) h0; have := h.spots; omega⟩
  · have := h.st
    rw [e, emitS, if_pos h0] at this
    exact this
  · have := h.er
    rw [e, emitE, if_pos h0] at this
    exact this
theorem Em.stop {s : Ps} {l : List Int} {s' : Ps} {er : Int} {k : Nat} {s1 : Ps} (h : Em s l s' er k s1) (hk : k < l.length) (h0 : commaE s1 ≠ 0) : s' = zeroP ∧ er = commaE s1 := by
  have e := drop_cons (l := l) (k := k) hk
  have h1 := h.st
  have h2 := h.er
  rw [e, emitS, if_neg h0] at h1
  rw [e, emitE, if_neg h0] at h2
  exact ⟨h1.symm, h2.symm⟩
theorem Em.done {s : Ps} {l : List Int} {s' : Ps} {er : Int} {k : Nat} {s1 : Ps} (h : Em s l s' er k s1) (hk : l.length ≤ k) : s' = s1 ∧ er = 0 := by
  have h1 := h.st
  have h2 := h.er
  rw [List.drop_eq_nil_of_le hk] at h1 h2
  exact ⟨h1.symm, h2.symm⟩

set_option maxHeartbeats 4000000 in
theorem Emit_any (q : Ad) (s : Ps) (A : Option Addr) (c n : Nat) (l : List Int) (s' : Ps) (er : Int) (w : World) (hn : l.length = n) (hs : emitS s l = s') (he : emitE s l = er) (hp : RdP w q s) (hx : RdI w .i64 A c l) (hl : s.mem.length ≤ 140737488355328) (hsp : s.spots.length + n ≤ 1000000) :
    Calls Tryz.prog 105 #[stV q s, .slice A n c] w fun e w' => ∃ q', e = .returned (.tuple #[stV q' s', .int .i64 er]) ∧ Res w.heap.size q s w' q' s' ∧ Below w.heap.size w w' := by
  have HB0 := Lib.hid (below_two (below_lit w (.cells (stL q s).toArray 28)) (below_lit _ (.cells (stL nilA zeroP).toArray 28)))
  have HP := Lib.hid (hp.below HB0.out)
  have HPw := Lib.hid hp
  have HN := Lib.hid hn
  have HX := Lib.hid hx
  have hle := hx.le
  have hcm := hx.cap
  rw [hn] at hle
  unfold maxLen at hcm
  have HE0 : Hid (Em s l s' er 0 s) := Lib.hid ⟨by simpa using hs, by simpa using he, rfl, by omega⟩
  have HG0 : Hid (Bx ((w.alloc (.cells (stL q s).toArray 28)).alloc (.cells (stL nilA zeroP).toArray 28)) w.heap.size 28 (stL q s)) := Lib.hid ((Bx.new w _ _ _ _ rfl rfl).alloc _)
  have HR0 : Hid (Bx ((w.alloc (.cells (stL q s).toArray 28)).alloc (.cells (stL nilA zeroP).toArray 28)) (w.heap.size + 1) 28 (stL nilA zeroP)) := Lib.hid (Bx.new _ _ _ _ _ (by simp) rfl)
  clear hp hn hx hs he
  rw [stV_eq q s]
  go_enter Tryz.func105, Tryz.ntmps105
  go_wp2_with fail
  go_step3
  go_wp2_with fail
  go_step3
  go_wp2_with fail
  go_loopw [6, 13] (fun e i wr => ∃ (k : Nat) (q1 : Ad) (s1 : Ps), e = .int .i64 0 ∧ i = .int .i64 k ∧ k ≤ n ∧ Hid (Em s l s' er k s1) ∧ Hid (Bx wr w.heap.size 28 (stL q1 s1)) ∧ Hid (Bx wr (w.heap.size + 1) 28 (stL nilA zeroP)) ∧ Hid (Res (w.heap.size + 2) q s wr q1 s1) ∧ Hid (Below w.heap.size w wr)) (fun _ i _ => n - (intOf i).toNat)
  case atStart => exact ⟨0, q, s, rfl, rfl, by omega, HE0, HG0, HR0, Lib.hid (Res.same _ HP.out), HB0⟩
  case round =>
    obtain ⟨k, q1, s1, rfl, rfl, hk, HE, HG, HR, HS, HB⟩ := hrel
    by_cases hlt : k < n
    · have hlt2 : k < l.length := by rw [HN.out]; exact hlt
      obtain ⟨ad, rfl, hcx⟩ := RdI.at_ (HX.out.below HB.out) hlt2
      obtain ⟨x, hxk⟩ : ∃ x, l.getD k 0 = x := ⟨_, rfl⟩
      rw [hxk] at hcx
      have HXK := Lib.hid hxk
      have h8 : wr.cell? ⟨w.heap.size, 8, none⟩ = some (.int .i64 s1.here) := HG.out.cell 8
      have h80 : (wr.alloc (.cells #[.int .i64 0] 3)).heap.size = wr.heap.size + 1 := by simp
      have HA : Hid (Bx (wr.alloc (.cells #[.int .i64 s1.here] 3)) wr.heap.size 3 [.int .i64 s1.here]) := Lib.hid (Bx.new wr _ _ _ _ rfl rfl)
      have HGA := Lib.hid (HG.out.alloc (.cells #[.int .i64 s1.here] 3))
      have HRA := Lib.hid (HR.out.alloc (.cells #[.int .i64 s1.here] 3))
      have HBA := Lib.hid (below_two HB.out (below_lit wr (.cells #[.int .i64 s1.here] 3)))
      have HSA := Lib.hid (HS.out.below (below_lit wr (.cells #[.int .i64 s1.here] 3)))
      have hwr : w.heap.size + 2 ≤ wr.heap.size := HR.out.lt
      have hml : s1.mem.length ≤ 140737488355328 := by rw [HE.out.mem]; exact hl
      obtain ⟨e1, he1⟩ : ∃ e, commaE s1 = e := ⟨_, rfl⟩
      have HE1 := Lib.hid he1
      clear hxk hlt2 he1 h80
      go_wp2_with (refine wp_loadS rfl 28 _ rfl w.heap.size rfl 28 (stL q1 s1) _ HGA.out Tryz.underlying28 rfl 15 infoSt rfl ?_)
      refine (Comma_any q1 s1 x _ e1 _ rfl HE1.out HSA.out.rd hml).mono ?_
      rintro e w2 ⟨q2, rfl, hp2, hb⟩
      have HG2 := Lib.hid (HGA.out.below hb)
      have HR2 := Lib.hid (HRA.out.below hb)
      have HA2 := Lib.hid (HA.out.below hb)
      have HB2 := Lib.hid (below_two HBA.out hb)
      have HS2 := Lib.hid (HSA.out.trans hp2 (by simp; omega))
      clear hp2 hb h8 hcx
      go_wp2_with (refine wp_storeS rfl 28 _ _ rfl w.heap.size (stL q2 (commaS s1 x)) rfl rfl 28 _ HG2.out 15 infoSt rfl rfl rfl ?_)
      intro w3 hg3 hw3
      have HG3 := Lib.hid hg3
      have HR3 := Lib.hid (HR2.out.grown hw3 (by omega))
      have HA3 := Lib.hid (HA2.out.grown hw3 (by omega))
      have HB3 := Lib.hid (below_grown HB2.out HB2.out.size hw3 (Nat.le_refl _))
      have HS3 := Lib.hid (HS2.out.grown HPw.out hw3 (by omega) (by omega))
      have hw3s : w.heap.size + 2 ≤ w3.heap.size := HR3.out.lt
      have hw3a : wr.heap.size < w3.heap.size := HA3.out.lt
      clear hg3 hw3 HG2 HR2 HA2 HB2 HS2
      by_cases h0 : e1 = 0
      · subst h0
        obtain ⟨hsp1, htk1⟩ := commaS_spots (v := x) HE1.out
        have hspn : (commaS s1 x).spots.length ≤ s.spots.length + k := by rw [hsp1]; exact HE.out.spots
        have hlay : layS s1 x = { commaS s1 x with spots := (s1.spots.filter (keepS s1.here)) ++ [(s1.here, s1.tok)] } := rfl
        have HEN := Lib.hid (HE.out.next (by rw [HN.out]; exact hlt) HE1.out)
        rw [HXK.out] at HEN
        generalize commaS s1 x = s2 at *
        have HLAY := Lib.hid hlay
        have HSP := Lib.hid hsp1
        have HTK := Lib.hid htk1
        clear hlay hsp1 htk1
        have h5 : w3.cell? ⟨w.heap.size, 5, none⟩ = some (.slice q2.s s2.spots.length q2.sc) := HG3.out.cell 5
        go_wp2_with fail
        refine (CloneS_any q2.s q2.sc s2.spots.length s2.spots _ rfl HS3.out.rd.spots (by omega)).mono ?_
        rintro e w4 ⟨y, rfl, ho, hb⟩
        have HO4 := Lib.hid ho
        have HG4 := Lib.hid (HG3.out.below hb)
        have HR4 := Lib.hid (HR3.out.below hb)
        have HA4 := Lib.hid (HA3.out.below hb)
        have HB4 := Lib.hid (below_two HB3.out hb)
        have HB34 := Lib.hid hb
        have hw4 := hb.size
        clear ho hb h5 HG3 HR3 HA3 HB3
        have hmf : ∀ (fn : Fn) (first cap : Array Value) (w : World), (Instr.makeFunc fn first cap).run Tryz.prog w = .ok (.func fn first cap) w := fun _ _ _ _ => rfl
        go_wp2_with fail
        refine (DeleteS_any w3.heap.size y s2.spots.length s2.spots s1.here ⟨wr.heap.size, 0, none⟩ _ _ rfl rfl HO4.out (by omega) (HA4.out.cell 0) hw3a hw4).mono ?_
        rintro e w5 ⟨y5, rfl, ho, hb⟩
        clear hmf
        have HO5 := Lib.hid ho
        have HG5 : Hid (Bx w5 w.heap.size 28 (stL q2 s2)) := Lib.hid ((hb.block _ (by omega)).trans HG4.out)
        have HR5 : Hid (Bx w5 (w.heap.size + 1) 28 (stL nilA zeroP)) := Lib.hid ((hb.block _ (by omega)).trans HR4.out)
        have HA5 : Hid (Bx w5 wr.heap.size 3 [.int .i64 s1.here]) := Lib.hid ((hb.block _ (by omega)).trans HA4.out)
        have HB5 := Lib.hid (HB4.out.trans (hb.mono (by omega)))
        have HB35 := Lib.hid (HB34.out.trans hb)
        have hw5 : w3.heap.size ≤ w5.heap.size := Nat.le_trans hw4 hb.size
        clear ho hb HG4 HR4 HA4 HB4 HO4 HB34
        obtain ⟨m, hm⟩ : ∃ m, s2.spots.filter (keepS s1.here) = m := ⟨_, rfl⟩
        rw [hm] at HO5
        have hml2 : m.length ≤ 1000000 := by
          have := List.length_filter_le (keepS s1.here) s2.spots
          rw [hm] at this
          omega
        have HMM := Lib.hid hm
        have hA0 : w5.cell? ⟨wr.heap.size, 0, none⟩ = some (.int .i64 s1.here) := HA5.out.cell 0
        have hT0 : w5.cell? ⟨w.heap.size, 10, none⟩ = some (.int .i64 s1.tok) := by rw [HG5.out.cell 10, ← HTK.out]; rfl
        clear hm
        go_wp2_with (refine wp_app (w0 := w5) rfl (.tmp 32) (.tmp 37) 26 101 _ 2 16 rfl Tryz.underlying26 infoSp rfl (by decide) (by decide) w3.heap.size y5 m.length (ecells encSp m) rfl (HO5.out.alloc _) (some ⟨w5.heap.size, 0, none⟩) 1 1 (ecells encSp [(s1.here, s1.tok)]) rfl (rd_alloc _ _ _ _ _ _ _ _ rfl rfl (by decide) (by decide)) (ecells_one_sp _) (by omega) (by simp; omega) (((Below.refl w5.heap.size w5).alloc (Nat.le_refl _) _).mono hw5) ?_)
        intro y6 w6 ho hb _
        have HO6 := Lib.hid ho
        have HG6 : Hid (Bx w6 w.heap.size 28 (stL q2 s2)) := Lib.hid ((hb.block _ (by omega)).trans HG5.out)
        have HR6 : Hid (Bx w6 (w.heap.size + 1) 28 (stL nilA zeroP)) := Lib.hid ((hb.block _ (by omega)).trans HR5.out)
        have HB6 := Lib.hid (HB5.out.trans (hb.mono (by omega)))
        have HS6 := Lib.hid (HS3.out.below (HB35.out.trans hb))
        clear hA0 hT0 HA5 ho hb HG5 HR5 HB5 HO5 HS3 HB35
        obtain ⟨A6, c6, rfl, _⟩ := Rd.own HO6.out
        go_wp2_with (refine wp_storeF rfl 26 _ _ rfl w.heap.size 5 _ rfl rfl rfl 28 (stL q2 s2) HG6.out 15 rfl (by decide) info1s ?_)
        intro w7 hg7 hw7
        have hlen : (m ++ [(s1.here, s1.tok)]).length = m.length + 1 := by simp
        have hs3 : layS s1 x = { s2 with spots := m ++ [(s1.here, s1.tok)] } := by rw [HLAY.out, ← HMM.out, HSP.out]
        have HG7 : Hid (Bx w7 w.heap.size 28 (stL { q2 with s := A6, sc := c6 } (layS s1 x))) := Lib.hid (by
          rw [hs3]
          have e : stL { q2 with s := A6, sc := c6 } { s2 with spots := m ++ [(s1.here, s1.tok)] } = (stL q2 s2).set 5 (.slice A6 (m.length + 1) c6) := by
            simp [stL]
          rw [e]
          exact hg7)
        have HR7 := Lib.hid (HR6.out.grown hw7 (by omega))
        have HB7 := Lib.hid (below_grown HB6.out HB6.out.size hw7 (Nat.le_refl _))
        have HO7 := Lib.hid (own_keep HO6.out hw7 (by omega))
        have HS7 : Hid (Res (w.heap.size + 2) q s w7 { q2 with s := A6, sc := c6 } (layS s1 x)) := Lib.hid (by
          rw [hs3]
          refine (HS6.out.grown HPw.out hw7 (Nat.le_refl _) (by omega)).withSpots ?_ ?_
          · have := own_rd HO7.out
            rw [← ecells_app] at this
            show Rd w7 A6 (m ++ [(s1.here, s1.tok)]).length c6 2 _
            rw [hlen]
            exact this
          · rw [hlen]
            exact own_block_ge (own_mono HO7.out hw3s))
        clear hg7 hw7 hlen hs3 HO6 HG6 HR6 HB6 HS6
        go_wp2
        go_roundw
        case rel => exact ⟨k + 1, _, _, rfl, by go_num, by omega, HEN, HG7, HR7, HS7, HB7⟩
        case measure => simp [intOf] <;> omega
      · have b1 : (e1 != 0) = true := by simpa using h0
        have hst := HE.out.stop (by rw [HN.out]; exact hlt) (by rw [HE1.out]; exact h0)
        rw [HE1.out] at hst
        obtain ⟨rfl, rfl⟩ := hst
        have hc0 : commaS s1 x = zeroP := commaS_no (by rw [HE1.out]; exact h0)
        rw [hc0] at HG3 HS3
        clear hc0 h0 HE
        go_wp2_with (first
          | (refine wp_loadS rfl 28 _ rfl w.heap.size rfl 28 _ _ HG3.out Tryz.underlying28 rfl 15 infoSt rfl ?_)
          | (refine wp_storeS rfl 28 _ _ rfl (w.heap.size + 1) (stL q2 zeroP) rfl rfl 28 _ HR3.out 15 infoSt rfl rfl rfl ?_))
        intro w4 hr4 hw4
        have HR4 := Lib.hid hr4
        have HB4 := Lib.hid (below_grown HB3.out HB3.out.size hw4 (by omega))
        have HS4 := Lib.hid (HS3.out.grown HPw.out hw4 (by omega) (by omega))
        clear hr4 hw4
        go_wp2
        rw [Exit.noGoto_ret]
        refine bodyPost_ret (v := .tuple #[stV q2 zeroP, .int .i64 er]) (results_S Tryz.results105 _ _ _ 28 _ _ rfl HR4.out Tryz.underlying28 rfl 15 infoSt rfl _ rfl) rfl ?_
        exact ⟨_, rfl, HS4.out.mono (by omega), HB4.out⟩
    · have hd := HE.out.done (by rw [HN.out]; omega)
      obtain ⟨rfl, rfl⟩ := hd
      go_wp2_with (first
        | (refine wp_loadS rfl 28 _ rfl w.heap.size rfl 28 (stL q1 s') _ HG.out Tryz.underlying28 rfl 15 infoSt rfl ?_)
        | (refine wp_storeS rfl 28 _ _ rfl (w.heap.size + 1) (stL q1 s') rfl rfl 28 _ HR.out 15 infoSt rfl rfl rfl ?_))
      intro w4 hr4 hw4
      have HR4 := Lib.hid hr4
      have HB4 := Lib.hid (below_grown HB.out HB.out.size hw4 (by omega))
      have HS4 := Lib.hid (HS.out.grown HPw.out hw4 (by omega) (by omega))
      clear hr4 hw4
      go_wp2
      rw [Exit.noGoto_ret]
      refine bodyPost_ret (v := .tuple #[stV q1 s', .int .i64 0]) (results_S Tryz.results105 _ _ _ 28 _ _ rfl HR4.out Tryz.underlying28 rfl 15 infoSt rfl _ rfl) rfl ?_
      exact ⟨_, rfl, HS4.out.mono (by omega), HB4.out⟩
end Go.Proofs.YtappfhjknihboaaGreatDoor


/- nostosref10: Up, Patch, Comma. -/
namespace Go.Proofs.YtappfhjknihboaaGreatDoor
open Go.RowKit

theorem upR_step {a : Int} (h : a % 8 ≠ 0) : upR (wrap64 (a + 1)) = upR a := by
  unfold upR wrap64
  omega
theorem upR_at {a : Int} (h0 : -9223372036854775808 ≤ a) (h1 : a ≤ 9223372036854775807) (h : a % 8 = 0) : upR a = a := by
  unfold upR wrap64
  omega

set_option maxHeartbeats 1000000 in
theorem RUp_any (at_ r : Int) (w : World) (h : upR at_ = r) (h0 : -9223372036854775808 ≤ at_) (h1 : at_ ≤ 9223372036854775807) :
    Calls Tryz.prog 18 #[.int .i64 at_] w fun e w' => e = .returned (.int .i64 r) ∧ w = w' := by
  have HH := Lib.hid (show upR at_ = r ∧ -9223372036854775808 ≤ at_ ∧ at_ ≤ 9223372036854775807 from ⟨h, h0, h1⟩)
  clear h h0 h1
  go_enter Tryz.func18, Tryz.ntmps18
  go_wp2_with fail
  go_loop [0] (fun x => ∃ a : Int, x = .int .i64 a ∧ Hid (upR a = r ∧ -9223372036854775808 ≤ a ∧ a ≤ 9223372036854775807)) (fun x => ((8 - intOf x % 8) % 8).toNat)
  case atStart => exact ⟨at_, rfl, HH⟩
  case round =>
    obtain ⟨a, rfl, HA⟩ := hrel
    obtain ⟨h2, h3, h4⟩ := HA.out
    by_cases h8 : a % 8 = 0
    · have b1 : (a.tmod 8 != 0) = false := by
        have : a.tmod 8 = 0 := Int.tmod_eq_zero_of_dvd (Int.dvd_of_emod_eq_zero h8)
        simp [this]
      have h5 : r = a := by rw [← h2, upR_at h3 h4 h8]
      have HR := Lib.hid h5
      clear h2 h3 h4 h8 h5
      go_wp2
      go_ret
      exact ⟨by rw [HR.out]; rfl, rfl⟩
    · have b1 : (a.tmod 8 != 0) = true := by
        have : a.tmod 8 ≠ 0 := fun e => h8 (Int.emod_eq_zero_of_dvd (Int.dvd_of_tmod_eq_zero e))
        simpa using this
      have HN := Lib.hid (show upR (wrap64 (a + 1)) = r ∧ -9223372036854775808 ≤ wrap64 (a + 1) ∧ wrap64 (a + 1) ≤ 9223372036854775807 from ⟨by rw [upR_step h8]; exact h2, by unfold wrap64; omega, by unfold wrap64; omega⟩)
      have HM : Hid (((8 - wrap64 (a + 1) % 8) % 8).toNat < ((8 - a % 8) % 8).toNat) := Lib.hid (by unfold wrap64; omega)
      clear h2 h3 h4 h8
      go_wp2
      go_round
      case rel => exact ⟨_, rfl, HN⟩
      case measure => exact HM.out

set_option maxHeartbeats 1000000 in
theorem RPatch_any (q : Ad) (s : Ps) (at_ v : Int) (s' : Ps) (er : Int) (w : World) (hs : patchS s at_ v = s') (he : patchE s at_ = er) (hp : RdP w q s) (hl : s.mem.length ≤ 140737488355328) :
    Calls Tryz.prog 114 #[stV q s, .int .i64 at_, .int .i64 v] w fun e w' => ∃ q', e = .returned (.tuple #[stV q' s', .int .i64 er]) ∧ Res w.heap.size q s w' q' s' ∧ Below w.heap.size w w' := by
  have HP := Lib.hid hp
  have HB0 := Lib.hid (below_two (below_lit w (.cells (stL q s).toArray 28)) (below_lit _ (.cells (stL nilA zeroP).toArray 28)))
  have HM := Lib.hid (hp.mem.below HB0.out)
  have HS := Lib.hid hs
  have HE := Lib.hid (show cellE s.mem.length at_ = er from he)
  clear hp hs he
  rw [stV_eq q s]
  go_enter Tryz.func114, Tryz.ntmps114
  go_wp2_with fail
  refine (RefSetCell_any q.m q.mc at_ v s.mem _ HM.out HP.out.memB hl).mono ?_
  rintro e w1 ⟨x, rfl, ho, hb⟩
  rw [HE.out]
  have HG : Hid (Bx w1 w.heap.size 28 (stL q s)) := Lib.hid (((Bx.new w _ _ _ _ rfl rfl).alloc _).below hb)
  have HR : Hid (Bx w1 (w.heap.size + 1) 28 (stL nilA zeroP)) := Lib.hid ((Bx.new _ _ _ _ _ (by simp) rfl).below hb)
  have HB1 := Lib.hid (below_two HB0.out hb)
  obtain ⟨A', c', rfl, hrd⟩ := Rd.own ho
  have HD := Lib.hid ho
  clear ho hb hrd
  by_cases he : er = 0
  · subst he
    have hs2 : s' = { s with mem := setC s.mem at_ v } := by rw [← HS.out, patchS, if_pos HE.out]
    obtain ⟨m', hm'⟩ : ∃ m', setC s.mem at_ v = m' := ⟨_, rfl⟩
    rw [hm'] at HD hs2 ⊢
    have HM' := Lib.hid (show isB m' by rw [← hm']; exact setC_isB HP.out.memB)
    have HS2 := Lib.hid hs2
    clear hm' hs2
    go_wp2_with (refine wp_storeF rfl 22 _ _ rfl w.heap.size 0 _ rfl rfl rfl 28 (stL q s) HG.out 15 rfl (by decide) info1m ?_)
    intro w2 hg2 hw2
    have HG2 : Hid (Bx w2 w.heap.size 28 (stL { q with m := A', mc := c' } s')) := Lib.hid (by rw [HS2.out]; exact hg2)
    have HR2 := Lib.hid (HR.out.grown hw2 (by omega))
    have HB2 := Lib.hid (below_grown HB1.out HB1.out.size hw2 (Nat.le_refl _))
    have HD2 := Lib.hid (own_keep HD.out hw2 (by simp; omega))
    clear hg2 hw2
    go_wp2_with (first
      | (refine wp_loadS rfl 28 _ rfl w.heap.size rfl 28 (stL { q with m := A', mc := c' } s') _ HG2.out Tryz.underlying28 rfl 15 infoSt rfl ?_)
      | (refine wp_storeS rfl 28 _ _ rfl (w.heap.size + 1) (stL { q with m := A', mc := c' } s') rfl rfl 28 _ HR2.out 15 infoSt rfl rfl rfl ?_))
    intro w3 hr3 hw3
    have HR3 := Lib.hid hr3
    have HB3 := Lib.hid (below_grown HB2.out HB2.out.size hw3 (by omega))
    have HD3 := Lib.hid (own_keep HD2.out hw3 (by simp))
    clear hr3 hw3
    go_wp2
    refine bodyPost_ret (v := .tuple #[stV { q with m := A', mc := c' } s', .int .i64 0]) (results_S Tryz.results114 _ _ _ 28 _ _ rfl HR3.out Tryz.underlying28 rfl 15 infoSt rfl _ rfl) rfl ?_
    refine ⟨_, rfl, ?_, HB3.out⟩
    rw [HS2.out]
    exact ((Res.same w.heap.size HP.out).below HB3.out).withMem (own_rd HD3.out) HM'.out (own_block_ge (own_mono HD3.out (by simp; omega)))
  · have hs2 : s' = zeroP := by rw [← HS.out, patchS, if_neg (by rw [HE.out]; exact he)]
    have b1 : (er != 0) = true := by simpa using he
    subst hs2
    clear he
    go_wp2_with (refine wp_storeS rfl 28 _ _ rfl (w.heap.size + 1) (stL nilA zeroP) rfl rfl 28 _ HR.out 15 infoSt rfl rfl rfl ?_)
    intro w3 hr3 hw3
    have HR3 := Lib.hid hr3
    have HB3 := Lib.hid (below_grown HB1.out HB1.out.size hw3 (by omega))
    clear hr3 hw3
    go_wp2
    refine bodyPost_ret (v := .tuple #[stV nilA zeroP, .int .i64 er]) (results_S Tryz.results114 _ _ _ 28 _ _ rfl HR3.out Tryz.underlying28 rfl 15 infoSt rfl _ rfl) rfl ?_
    exact ⟨_, rfl, Res.zero _ _ _ _, HB3.out⟩

set_option maxHeartbeats 2000000 in
theorem RComma_any (q : Ad) (s : Ps) (v : Int) (s' : Ps) (er : Int) (w : World) (hs : commaS s v = s') (he : commaE s = er) (hp : RdP w q s) (hl : s.mem.length ≤ 140737488355328) :
    Calls Tryz.prog 81 #[stV q s, .int .i64 v] w fun e w' => ∃ q', e = .returned (.tuple #[stV q' s', .int .i64 er]) ∧ Res w.heap.size q s w' q' s' ∧ Below w.heap.size w w' := by
  have HB0 := Lib.hid (below_two (below_lit w (.cells (stL q s).toArray 28)) (below_lit _ (.cells (stL nilA zeroP).toArray 28)))
  have HP := Lib.hid (hp.below HB0.out)
  have HPw := Lib.hid hp
  have HS := Lib.hid hs
  have HE := Lib.hid he
  clear hp hs he
  by_cases hfull : (s.mem.length : Int) - 8 < s.here
  · obtain rfl : er = -8 := by rw [← HE.out, commaE, if_pos hfull]
    obtain rfl : s' = zeroP := by rw [← HS.out, commaS, HE.out]; rfl
    have HR : Hid (Bx ((w.alloc (.cells (stL q s).toArray 28)).alloc (.cells (stL nilA zeroP).toArray 28)) (w.heap.size + 1) 28 (stL nilA zeroP)) := Lib.hid (Bx.new _ _ _ _ _ (by simp) rfl)
    rw [stV_eq q s]
    go_enter Tryz.func81, Tryz.ntmps81
    go_wp2_with (refine wp_storeS rfl 28 _ _ rfl (w.heap.size + 1) (stL nilA zeroP) rfl rfl 28 _ HR.out 15 infoSt rfl rfl rfl ?_)
    intro w3 hr3 hw3
    have HR3 := Lib.hid hr3
    have HB3 := Lib.hid (below_grown HB0.out HB0.out.size hw3 (by omega))
    clear hr3 hw3
    go_wp2
    refine bodyPost_ret (v := .tuple #[stV nilA zeroP, .int .i64 (-8)]) (results_S Tryz.results81 _ _ _ 28 _ _ rfl HR3.out Tryz.underlying28 rfl 15 infoSt rfl _ rfl) rfl ?_
    exact ⟨_, rfl, Res.zero _ _ _ _, HB3.out⟩
  · have HE2 := Lib.hid (show patchE s s.here = er by have := HE.out; rw [commaE, if_neg hfull] at this; exact this)
    rw [stV_eq q s]
    go_enter Tryz.func81, Tryz.ntmps81
    have HG0 : Hid (Bx ((w.alloc (.cells (stL q s).toArray 28)).alloc (.cells (stL nilA zeroP).toArray 28)) w.heap.size 28 (stL q s)) := Lib.hid ((Bx.new w _ _ _ _ rfl rfl).alloc _)
    go_wp2_with (refine wp_loadS rfl 28 _ rfl w.heap.size rfl 28 (stL q s) _ HG0.out Tryz.underlying28 rfl 15 infoSt rfl ?_)
    refine (RPatch_any q s s.here v _ er _ rfl HE2.out HP.out hl).mono ?_
    rintro e w1 ⟨q1, rfl, hp1, hb⟩
    have HG := Lib.hid (HG0.out.below hb)
    have HR : Hid (Bx w1 (w.heap.size + 1) 28 (stL nilA zeroP)) := Lib.hid ((Bx.new _ _ _ _ _ (by simp) rfl).below hb)
    have HB1 := Lib.hid (below_two HB0.out hb)
    have HP1 := Lib.hid (hp1.mono (by simp : w.heap.size + 2 ≤ _))
    clear hb hp1
    have HF := Lib.hid hfull
    clear hfull
    have HT1 : Hid (Bx (w1.alloc (.cells (stL nilA zeroP).toArray 28)) w1.heap.size 28 (stL nilA zeroP)) := Lib.hid (Bx.new w1 _ _ _ _ rfl rfl)
    have HGT := Lib.hid (HG.out.alloc (.cells (stL nilA zeroP).toArray 28))
    have HRT := Lib.hid (HR.out.alloc (.cells (stL nilA zeroP).toArray 28))
    have HBT := Lib.hid (below_lit w1 (.cells (stL nilA zeroP).toArray 28))
    have hw1 : w.heap.size + 2 ≤ w1.heap.size := HR.out.lt
    go_wp2_with (refine wp_storeS rfl 28 _ _ rfl w1.heap.size (stL q1 (patchS s s.here v)) rfl rfl 28 _ HT1.out 15 infoSt rfl rfl rfl ?_)
    intro w2 ht2 hw2
    have HT2 := Lib.hid ht2
    have HG2 := Lib.hid (HGT.out.grown hw2 (by omega))
    have HR2 := Lib.hid (HRT.out.grown hw2 (by omega))
    have HK2 := Lib.hid (below_grown HBT.out HBT.out.size hw2 (Nat.le_refl _))
    clear ht2 hw2 HT1 HGT HRT HBT HG HR
    by_cases h0 : er = 0
    · subst h0
      have e1 : s' = { patchS s s.here v with here := s.here + 8 } := by rw [← HS.out, commaS_ok HE.out]
      have hr := cellE_zero HE2.out
      have HF2 := Lib.hid HF.out
      generalize patchS s s.here v = s1 at *
      have h8 : w2.cell? ⟨w.heap.size, 8, none⟩ = some (.int .i64 s.here) := by rw [HG2.out.cell 8]; rfl
      have HE1 := Lib.hid e1
      clear e1
      go_wp2_with (refine wp_storeF rfl 3 _ _ rfl w1.heap.size 8 _ rfl rfl rfl 28 _ HT2.out 15 rfl (by decide) info1i ?_)
      intro w3 hg3 hw3
      have HT3 : Hid (Bx w3 w1.heap.size 28 (stL q1 s')) := Lib.hid (by rw [HE1.out]; exact hg3)
      have HR3 := Lib.hid (HR2.out.grown hw3 (by omega))
      have HK3 := Lib.hid (below_grown HK2.out HK2.out.size hw3 (Nat.le_refl _))
      clear hg3 hw3 h8
      have HP3 := Lib.hid (HP1.out.below HK3.out)
      have HB3 := Lib.hid (below_two HB1.out HK3.out)
      go_wp2_with (first
        | (refine wp_loadS rfl 28 _ rfl w1.heap.size rfl 28 (stL q1 s') _ HT3.out Tryz.underlying28 rfl 15 infoSt rfl ?_)
        | (refine wp_storeS rfl 28 _ _ rfl (w.heap.size + 1) (stL q1 s') rfl rfl 28 _ HR3.out 15 infoSt rfl rfl rfl ?_))
      intro w4 hr4 hw4
      have HR4 := Lib.hid hr4
      have HB4 := Lib.hid (below_grown HB3.out HB3.out.size hw4 (by omega))
      have HP4 := Lib.hid (HP3.out.grown HPw.out hw4 (by omega) (by omega))
      clear hr4 hw4
      go_wp2
      refine bodyPost_ret (v := .tuple #[stV q1 s', .int .i64 0]) (results_S Tryz.results81 _ _ _ 28 _ _ rfl HR4.out Tryz.underlying28 rfl 15 infoSt rfl _ rfl) rfl ?_
      refine ⟨_, rfl, ?_, HB4.out⟩
      rw [HE1.out]
      exact (HP4.out.withHere _).mono (by omega)
    · have b1 : (er != 0) = true := by simpa using h0
      have e1 : s' = zeroP := by rw [← HS.out, commaS_no (by rw [HE.out]; exact h0)]
      subst e1
      have HB3 := Lib.hid (below_two HB1.out HK2.out)
      clear h0
      go_wp2_with (refine wp_storeS rfl 28 _ _ rfl (w.heap.size + 1) (stL nilA zeroP) rfl rfl 28 _ HR2.out 15 infoSt rfl rfl rfl ?_)
      intro w4 hr4 hw4
      have HR4 := Lib.hid hr4
      have HB4 := Lib.hid (below_grown HB3.out HB3.out.size hw4 (by omega))
      clear hr4 hw4
      go_wp2
      refine bodyPost_ret (v := .tuple #[stV nilA zeroP, .int .i64 er]) (results_S Tryz.results81 _ _ _ 28 _ _ rfl HR4.out Tryz.underlying28 rfl 15 infoSt rfl _ rfl) rfl ?_
      exact ⟨_, rfl, Res.zero _ _ _ _, HB4.out⟩
end Go.Proofs.YtappfhjknihboaaGreatDoor


/- nostosref10.Emit. -/
namespace Go.Proofs.YtappfhjknihboaaGreatDoor
open Go.RowKit

theorem Res.grown' {B k : Nat} {q q' : Ad} {s s' : Ps} {w w' : World} (h : Res B q s w q' s') (hl : Lies q' s' (fun b => b ≠ k)) (hg : w.grownBy w' (some k)) : Res B q s w' q' s' :=
  ⟨h.rd.grown hl hg (fun h => h rfl), h.lies⟩

set_option maxHeartbeats 8000000 in
set_option maxRecDepth 100000 in
theorem REmit_any (q : Ad) (s : Ps) (A : Option Addr) (c n : Nat) (l : List Int) (s' : Ps) (er : Int) (w : World) (hn : l.length = n) (hs : emitS s l = s') (he : emitE s l = er) (hp : RdP w q s) (hx : RdI w .i64 A c l) (hl : s.mem.length ≤ 140737488355328) (hsp : s.spots.length + n ≤ 1000000) :
    Calls Tryz.prog 82 #[stV q s, .slice A n c] w fun e w' => ∃ q', e = .returned (.tuple #[stV q' s', .int .i64 er]) ∧ Res w.heap.size q s w' q' s' ∧ Below w.heap.size w w' := by
  have HB0 := Lib.hid (below_two (below_lit w (.cells (stL q s).toArray 28)) (below_lit _ (.cells (stL nilA zeroP).toArray 28)))
  have HP := Lib.hid (hp.below HB0.out)
  have HPw := Lib.hid hp
  have HN := Lib.hid hn
  have HX := Lib.hid hx
  have hle := hx.le
  have hcm := hx.cap
  rw [hn] at hle
  unfold maxLen at hcm
  have HE0 : Hid (Em s l s' er 0 s) := Lib.hid ⟨by simpa using hs, by simpa using he, rfl, by omega⟩
  have HG0 : Hid (Bx ((w.alloc (.cells (stL q s).toArray 28)).alloc (.cells (stL nilA zeroP).toArray 28)) w.heap.size 28 (stL q s)) := Lib.hid ((Bx.new w _ _ _ _ rfl rfl).alloc _)
  have HR0 : Hid (Bx ((w.alloc (.cells (stL q s).toArray 28)).alloc (.cells (stL nilA zeroP).toArray 28)) (w.heap.size + 1) 28 (stL nilA zeroP)) := Lib.hid (Bx.new _ _ _ _ _ (by simp) rfl)
  clear hp hn hx hs he
  rw [stV_eq q s]
  go_enter Tryz.func82, Tryz.ntmps82
  go_wp2_with fail
  go_loopw [6] (fun i wr => ∃ (k : Nat) (q1 : Ad) (s1 : Ps), i = .int .i64 k ∧ k ≤ n ∧ Hid (Em s l s' er k s1) ∧ Hid (Bx wr w.heap.size 28 (stL q1 s1)) ∧ Hid (Bx wr (w.heap.size + 1) 28 (stL nilA zeroP)) ∧ Hid (Res (w.heap.size + 2) q s wr q1 s1) ∧ Hid (Below w.heap.size w wr)) (fun i _ => n - (intOf i).toNat)
  case atStart => exact ⟨0, q, s, rfl, by omega, HE0, HG0, HR0, Lib.hid (Res.same _ HP.out), HB0⟩
  case round =>
    obtain ⟨k, q1, s1, rfl, hk, HE, HG, HR, HS, HB⟩ := hrel
    by_cases hlt : k < n
    · have hlt2 : k < l.length := by rw [HN.out]; exact hlt
      obtain ⟨ad, rfl, hcx⟩ := RdI.at_ (HX.out.below HB.out) hlt2
      obtain ⟨x, hxk⟩ : ∃ x, l.getD k 0 = x := ⟨_, rfl⟩
      rw [hxk] at hcx
      have HXK := Lib.hid hxk
      have hwr : w.heap.size + 2 ≤ wr.heap.size := HR.out.lt
      have hml : s1.mem.length ≤ 140737488355328 := by rw [HE.out.mem]; exact hl
      obtain ⟨e1, he1⟩ : ∃ e, commaE s1 = e := ⟨_, rfl⟩
      have HE1 := Lib.hid he1
      clear hxk hlt2 he1
      go_wp2_with fail
      have KEEP : Hid (∀ w', Below wr.heap.size wr w' → Below wr.heap.size wr w' ∧ w'.cell? (ad.add k) = some (.int .i64 x) ∧ w'.cell? ⟨w.heap.size, 0, none⟩ = some (.slice q1.m s1.mem.length q1.mc) ∧ w'.cell? ⟨w.heap.size, 1, none⟩ = some (.slice q1.d s1.data.length q1.dc) ∧ w'.cell? ⟨w.heap.size, 2, none⟩ = some (.slice q1.r s1.ret.length q1.rc) ∧ w'.cell? ⟨w.heap.size, 3, none⟩ = some (.slice q1.c s1.ctl.length q1.cc) ∧ w'.cell? ⟨w.heap.size, 4, none⟩ = some (.slice q1.w s1.words.length q1.wc) ∧ w'.cell? ⟨w.heap.size, 5, none⟩ = some (.slice q1.s s1.spots.length q1.sc) ∧ w'.cell? ⟨w.heap.size, 6, none⟩ = some (.slice q1.o s1.out.length q1.oc) ∧ w'.cell? ⟨w.heap.size, 7, none⟩ = some (.int .i64 s1.ip) ∧ w'.cell? ⟨w.heap.size, 8, none⟩ = some (.int .i64 s1.here) ∧ w'.cell? ⟨w.heap.size, 9, none⟩ = some (.int .i64 s1.pos) ∧ w'.cell? ⟨w.heap.size, 10, none⟩ = some (.int .i64 s1.tok) ∧ w'.cell? ⟨w.heap.size, 11, none⟩ = some (.int .i64 s1.inp) ∧ w'.cell? ⟨w.heap.size, 12, none⟩ = some (.int .i64 s1.err) ∧ w'.cell? ⟨w.heap.size, 13, none⟩ = some (.bool s1.comp) ∧ w'.cell? ⟨w.heap.size, 14, none⟩ = some (.bool s1.halt)) := Lib.hid (fun w' hb => ⟨hb, (hb.cell (World.block_lt_of_cell? wr _ hcx)).trans hcx, (HG.out.below hb).st15⟩)
      go_region_held3 (fun w' => Below wr.heap.size wr w' ∧ w'.cell? (ad.add k) = some (.int .i64 x) ∧ w'.cell? ⟨w.heap.size, 0, none⟩ = some (.slice q1.m s1.mem.length q1.mc) ∧ w'.cell? ⟨w.heap.size, 1, none⟩ = some (.slice q1.d s1.data.length q1.dc) ∧ w'.cell? ⟨w.heap.size, 2, none⟩ = some (.slice q1.r s1.ret.length q1.rc) ∧ w'.cell? ⟨w.heap.size, 3, none⟩ = some (.slice q1.c s1.ctl.length q1.cc) ∧ w'.cell? ⟨w.heap.size, 4, none⟩ = some (.slice q1.w s1.words.length q1.wc) ∧ w'.cell? ⟨w.heap.size, 5, none⟩ = some (.slice q1.s s1.spots.length q1.sc) ∧ w'.cell? ⟨w.heap.size, 6, none⟩ = some (.slice q1.o s1.out.length q1.oc) ∧ w'.cell? ⟨w.heap.size, 7, none⟩ = some (.int .i64 s1.ip) ∧ w'.cell? ⟨w.heap.size, 8, none⟩ = some (.int .i64 s1.here) ∧ w'.cell? ⟨w.heap.size, 9, none⟩ = some (.int .i64 s1.pos) ∧ w'.cell? ⟨w.heap.size, 10, none⟩ = some (.int .i64 s1.tok) ∧ w'.cell? ⟨w.heap.size, 11, none⟩ = some (.int .i64 s1.inp) ∧ w'.cell? ⟨w.heap.size, 12, none⟩ = some (.int .i64 s1.err) ∧ w'.cell? ⟨w.heap.size, 13, none⟩ = some (.bool s1.comp) ∧ w'.cell? ⟨w.heap.size, 14, none⟩ = some (.bool s1.halt))
        (first
          | (refine KEEP.out _ ?_; (iterate 15 with_reducible refine below_set ?_); with_reducible exact hS.1)
          | (with_reducible exact KEEP.out _ (Below.refl _ _).drew)
          | (with_reducible exact KEEP.out _ (((Below.refl _ _).alloc (Nat.le_refl _) _).drew))
          | (with_reducible exact hS)
          | (with_reducible exact KEEP.out _ (hS.1.alloc hS.1.size _)))
        ((go_at_call 81; refine (RComma_any q1 s1 x _ e1 _ rfl HE1.out (HS.out.rd.below ((by assumption : Below wr.heap.size wr _ ∧ _)).1) hml).mono ?_; rintro e w2 ⟨q2, rfl, hp2, hb⟩; have HC2 := Lib.hid hp2; have HBB := Lib.hid hb; have hS := KEEP.out w2 (((by assumption : Below wr.heap.size wr _ ∧ _)).1.trans (hb.mono ((by assumption : Below wr.heap.size wr _ ∧ _)).1.size)); clear hp2; (first | (have HZ : Bx w2 wr.heap.size 28 (stL nilA zeroP) := Bx.below (w := (wr.alloc (.cells (stL nilA zeroP).toArray 28)).drew) (show Bx _ wr.heap.size 28 (stL nilA zeroP) from Bx.new wr _ _ _ _ rfl rfl) hb; obtain ⟨⟨z0, z1, z2, z3, z4, z5, z6, z7, z8, z9, z10, z11, z12, z13, z14⟩, f0, f1, f2, f3, f4, f5, f6, f7, f8, f9, f10, f11, f12, f13, f14⟩ := HZ.z15; have HZ2 := Lib.hid HZ; clear HZ) | skip); clear hb; rw [stV_eq q2 (commaS s1 x)]))
      · obtain ⟨W, hW⟩ : ∃ W, w2.alloc (.cells #[.slice q2.m (commaS s1 x).mem.length q2.mc, .slice q2.d (commaS s1 x).data.length q2.dc, .slice q2.r (commaS s1 x).ret.length q2.rc, .slice q2.c (commaS s1 x).ctl.length q2.cc, .slice q2.w (commaS s1 x).words.length q2.wc, .slice q2.s (commaS s1 x).spots.length q2.sc, .slice q2.o (commaS s1 x).out.length q2.oc, .int .i64 (commaS s1 x).ip, .int .i64 (commaS s1 x).here, .int .i64 (commaS s1 x).pos, .int .i64 (commaS s1 x).tok, .int .i64 (commaS s1 x).inp, .int .i64 (commaS s1 x).err, .bool (commaS s1 x).comp, .bool (commaS s1 x).halt] 28) = W := ⟨_, rfl⟩
        rename_i hheld
        have hSW := hheld.1
        clear hheld
        rw [hW] at hSW ⊢
        have HT : Hid (Bx W w2.heap.size 28 (stL q2 (commaS s1 x))) := Lib.hid (by rw [← hW]; exact Bx.new w2 _ _ _ _ rfl rfl)
        have HSW : Hid (Res (w.heap.size + 2) q s W q2 (commaS s1 x)) := Lib.hid (HS.out.trans (by rw [← hW]; exact HC2.out.below (below_lit w2 _)) (by simp; omega))
        have HSO := Lib.hid (HS.out.rd.spots.below hSW)
        have HGW := Lib.hid (HG.out.below hSW)
        have HRW := Lib.hid (HR.out.below hSW)
        have HBW := Lib.hid (below_two HB.out hSW)
        have HLT : Hid (Lies q2 (commaS s1 x) (fun b => b ≠ w2.heap.size)) := Lib.hid (HC2.out.rd.lies.mono (fun b h => Nat.ne_of_lt h))
        obtain ⟨T, hT⟩ : ∃ T, w2.heap.size = T := ⟨_, rfl⟩
        have hTl : wr.heap.size ≤ T := by rw [← hT]; exact HBB.out.size
        rw [hT] at HT HLT ⊢
        clear hW hS HC2 HBB hT hSW
        clear KEEP hcx
        have hTw : T < W.heap.size := HT.out.lt
        by_cases h0 : e1 = 0
        · subst h0
          obtain ⟨hsp1, htk1⟩ := commaS_spots (v := x) HE1.out
          have hspn : s1.spots.length ≤ s.spots.length + k := HE.out.spots
          have hlay : layS s1 x = { commaS s1 x with spots := (s1.spots.filter (keepS s1.here)) ++ [(s1.here, s1.tok)] } := rfl
          have HEN := Lib.hid (HE.out.next (by rw [HN.out]; exact hlt) HE1.out)
          rw [HXK.out] at HEN
          generalize commaS s1 x = s2 at *
          have HLAY := Lib.hid hlay
          clear hlay hsp1 htk1
          have HW0 := Lib.hid (Below.refl W.heap.size W)
          have hWw : w.heap.size + 2 ≤ W.heap.size := by omega
          go_wp2_with fail
          go_loopw [9, 10] (fun v y wi => ∃ (j : Nat), y = .int .i64 j ∧ j ≤ s1.spots.length ∧ Hid (wi.ownsRow W.heap.size 101 2 v ((s1.spots.take j).filter (keepS s1.here)).length (ecells encSp ((s1.spots.take j).filter (keepS s1.here)))) ∧ Hid (Below W.heap.size W wi)) (fun _ y _ => s1.spots.length - (intOf y).toNat)
          case atStart => exact ⟨0, rfl, by omega, Lib.hid ⟨rfl, .inl ⟨rfl, rfl⟩⟩, HW0⟩
          case round =>
            obtain ⟨j, rfl, hj, HO, HBI⟩ := hrel
            have hfl : ((s1.spots.take j).filter (keepS s1.here)).length ≤ j := by
              have := List.length_filter_le (keepS s1.here) (s1.spots.take j)
              simp at this
              omega
            by_cases hj2 : j < s1.spots.length
            · have c5 : wr.cell? ⟨w.heap.size, 5, none⟩ = some (.slice q1.s s1.spots.length q1.sc) := (HGW.out.below HBI.out).cell 5
              have c8 : wr.cell? ⟨w.heap.size, 8, none⟩ = some (.int .i64 s1.here) := (HGW.out.below HBI.out).cell 8
              obtain ⟨ad2, had, hcell⟩ := RdE.all encSp_len (by decide) (HSO.out.below HBI.out) (by omega)
              rw [had] at c5
              have e0 := hcell.at0 hj2 (v := .int .i64 (s1.spots[j]!).1) rfl
              have e1 := hcell.at' hj2 1 (by decide) (v := .int .i64 (s1.spots[j]!).2) rfl
              obtain ⟨y, hy⟩ : ∃ y, s1.spots[j]! = y := ⟨_, rfl⟩
              rw [hy] at e0 e1
              have HY := Lib.hid hy
              have HAD := Lib.hid had
              have b1 : (0 : Int) ≤ (j : Int) := by omega
              have b2 : (j : Int) < (s1.spots.length : Int) := by omega
              have hsnoc : s1.spots.take (j + 1) = s1.spots.take j ++ [y] := by
                rw [List.take_add_one, List.getElem?_eq_getElem hj2, ← hy, getElem!_pos s1.spots j hj2]
                rfl
              have HSN := Lib.hid hsnoc
              clear hy had hcell hsnoc
              by_cases hlt3 : y.1 < s1.here
              · have hk3 : keepS s1.here y = true := by unfold keepS; simpa using hlt3
                have HK3 := Lib.hid hk3
                clear hk3
                go_wp2_with fail
                go_quiet (fail)
                obtain ⟨w5, hw5⟩ : ∃ w5, wr.drewN nq = w5 := ⟨_, rfl⟩
                have c5 : w5.cell? ⟨w.heap.size, 5, none⟩ = some (.slice (some ad2) s1.spots.length q1.sc) := by rw [← hw5]; exact c5
                have e0 : w5.cell? (ad2.add (j * 2)) = some (.int .i64 y.1) := by rw [← hw5]; exact e0
                have e1 : w5.cell? ⟨(ad2.add (j * 2)).block, (ad2.add (j * 2)).off + 1, none⟩ = some (.int .i64 y.2) := by rw [← hw5]; exact e1
                have HO5 := Lib.hid (own_below HO.out (below_drewN wr nq))
                have HB5 := Lib.hid (below_two HBI.out (below_drewN wr nq))
                rw [hw5] at HO5 HB5 ⊢
                have hW5 : W.heap.size ≤ w5.heap.size := HB5.out.size
                clear c8 hw5 HO HBI
                go_wp2_with (refine wp_app (w0 := w5) rfl (.tmp 46) (.tmp 52) 26 101 _ 2 16 rfl Tryz.underlying26 infoSp rfl (by decide) (by decide) W.heap.size _ ((s1.spots.take j).filter (keepS s1.here)).length (ecells encSp ((s1.spots.take j).filter (keepS s1.here))) rfl (HO5.out.alloc _) (some ⟨w5.heap.size, 0, none⟩) 1 1 (ecells encSp [y]) rfl (rd_alloc _ _ _ _ _ _ _ _ rfl rfl (by decide) (by decide)) (ecells_one_sp _) (by omega) (by simp; omega) (((Below.refl w5.heap.size w5).alloc (Nat.le_refl _) _).mono hW5) ?_)
                intro y6 w6 ho hb _
                have HO6 := Lib.hid ho
                have HB6 := Lib.hid (HB5.out.trans hb)
                clear ho hb c5 e0 e1 HO5 HB5
                go_wp2
                go_roundw
                case rel =>
                  refine ⟨j + 1, by go_num, by omega, ?_, HB6⟩
                  rw [HSN.out, List.filter_append, List.filter_cons_of_pos HK3.out, List.filter_nil, List.length_append, ecells_app]
                  exact HO6
                case measure => simp [intOf] <;> omega
              · have hk3 : keepS s1.here y = false := by unfold keepS; simpa using hlt3
                have HK3 := Lib.hid hk3
                clear hk3
                go_wp2_with fail
                go_quiet (fail)
                have HO5 := Lib.hid (own_below HO.out (below_drewN wr nq))
                have HB5 := Lib.hid (below_two HBI.out (below_drewN wr nq))
                clear HO HBI
                go_wp2
                go_roundw
                case rel =>
                  refine ⟨j + 1, by go_num, by omega, ?_, HB5⟩
                  rw [HSN.out, List.filter_append, List.filter_cons_of_neg (by rw [HK3.out]; decide), List.filter_nil, List.append_nil]
                  exact HO5
                case measure => simp [intOf] <;> omega
            · have hjL : j = s1.spots.length := by omega
              rw [hjL, List.take_length] at HO
              rw [hjL, List.take_length] at hfl
              obtain ⟨m, hm⟩ : ∃ m, s1.spots.filter (keepS s1.here) = m := ⟨_, rfl⟩
              rw [hm] at HO hfl
              have c5 : wr.cell? ⟨w.heap.size, 5, none⟩ = some (.slice q1.s s1.spots.length q1.sc) := (HGW.out.below HBI.out).cell 5
              have c8 : wr.cell? ⟨w.heap.size, 8, none⟩ = some (.int .i64 s1.here) := (HGW.out.below HBI.out).cell 8
              have c10 : wr.cell? ⟨w.heap.size, 10, none⟩ = some (.int .i64 s1.tok) := (HGW.out.below HBI.out).cell 10
              have hWr : W.heap.size ≤ wr.heap.size := HBI.out.size
              have HMM := Lib.hid hm
              clear hm
              go_wp2_with (refine wp_app (w0 := wr) rfl (.tmp 54) (.tmp 60) 26 101 _ 2 16 rfl Tryz.underlying26 infoSp rfl (by decide) (by decide) W.heap.size _ m.length (ecells encSp m) rfl (HO.out.alloc _) (some ⟨wr.heap.size, 0, none⟩) 1 1 (ecells encSp [(s1.here, s1.tok)]) rfl (rd_alloc _ _ _ _ _ _ _ _ rfl rfl (by decide) (by decide)) (ecells_one_sp _) (by omega) (by simp; omega) (((Below.refl wr.heap.size wr).alloc (Nat.le_refl _) _).mono hWr) ?_)
              intro y6 w6 ho hb _
              have HO6 := Lib.hid ho
              have HBI6 := Lib.hid (HBI.out.trans hb)
              clear ho hb c5 c8 c10 HO HBI
              have HT6 := Lib.hid (HT.out.below HBI6.out)
              have HG6 := Lib.hid (HGW.out.below HBI6.out)
              have HR6 := Lib.hid (HRW.out.below HBI6.out)
              have HS6 := Lib.hid (HSW.out.below HBI6.out)
              have HB6 := Lib.hid (below_two HBW.out HBI6.out)
              obtain ⟨A6, c6, rfl, _⟩ := Rd.own HO6.out
              go_wp2_with (refine wp_storeF rfl 26 _ _ rfl T 5 _ rfl rfl rfl 28 (stL q2 s2) HT6.out 15 rfl (by decide) info1s ?_)
              intro w7 hg7 hw7
              have hlen : (m ++ [(s1.here, s1.tok)]).length = m.length + 1 := by simp
              have hs3 : layS s1 x = { s2 with spots := m ++ [(s1.here, s1.tok)] } := by rw [HLAY.out, ← HMM.out]
              have HT7 : Hid (Bx w7 T 28 (stL { q2 with s := A6, sc := c6 } (layS s1 x))) := Lib.hid (by
                rw [hs3]
                have e : stL { q2 with s := A6, sc := c6 } { s2 with spots := m ++ [(s1.here, s1.tok)] } = (stL q2 s2).set 5 (.slice A6 (m.length + 1) c6) := by
                  simp [stL]
                rw [e]
                exact hg7)
              have HG7 := Lib.hid (HG6.out.grown hw7 (by omega))
              have HR7 := Lib.hid (HR6.out.grown hw7 (by omega))
              have HB7 := Lib.hid (below_grown HB6.out HB6.out.size hw7 (by omega))
              have HO7 := Lib.hid (own_keep HO6.out hw7 (by omega))
              have HS7 : Hid (Res (w.heap.size + 2) q s w7 { q2 with s := A6, sc := c6 } (layS s1 x)) := Lib.hid (by
                rw [hs3]
                refine (HS6.out.grown' HLT.out hw7).withSpots ?_ ?_
                · have := own_rd HO7.out
                  rw [← ecells_app] at this
                  show Rd w7 A6 (m ++ [(s1.here, s1.tok)]).length c6 2 _
                  rw [hlen]
                  exact this
                · rw [hlen]
                  exact own_block_ge (own_mono HO7.out hWw))
              clear hg7 hw7 hlen hs3 HO6 HG6 HR6 HB6 HS6 HT6
              go_wp2_with (first
                | (refine wp_loadS rfl 28 _ rfl T rfl 28 _ _ HT7.out Tryz.underlying28 rfl 15 infoSt rfl ?_)
                | (refine wp_storeS rfl 28 _ _ rfl w.heap.size (stL { q2 with s := A6, sc := c6 } (layS s1 x)) rfl rfl 28 _ HG7.out 15 infoSt rfl rfl rfl ?_))
              intro w8 hg8 hw8
              have HG8 := Lib.hid hg8
              have HR8 := Lib.hid (HR7.out.grown hw8 (by omega))
              have HB8 := Lib.hid (below_grown HB7.out HB7.out.size hw8 (Nat.le_refl _))
              have HS8 := Lib.hid (HS7.out.grown HPw.out hw8 (Nat.le_refl _) (by omega))
              clear hg8 hw8
              go_wp2
              go_roundw
              case rel => exact ⟨k + 1, _, _, by go_num, by omega, HEN, HG8, HR8, HS8, HB8⟩
              case measure => simp [intOf] <;> omega
        · have b1 : (e1 != 0) = true := by simpa using h0
          have hst := HE.out.stop (by rw [HN.out]; exact hlt) (by rw [HE1.out]; exact h0)
          rw [HE1.out] at hst
          obtain ⟨rfl, rfl⟩ := hst
          go_wp2_with (refine wp_storeS rfl 28 _ _ rfl (w.heap.size + 1) (stL nilA zeroP) rfl rfl 28 _ HRW.out 15 infoSt rfl rfl rfl ?_)
          intro w4 hr4 hw4
          have HB4 := Lib.hid (below_grown HBW.out HBW.out.size hw4 (by omega))
          have HR4 := Lib.hid hr4
          clear hr4 hw4
          go_wp2
          refine bodyPost_ret (v := .tuple #[stV nilA zeroP, .int .i64 er]) (results_S Tryz.results82 _ _ _ 28 _ _ rfl HR4.out Tryz.underlying28 rfl 15 infoSt rfl _ rfl) rfl ?_
          exact ⟨nilA, rfl, Res.zero _ _ _ _, HB4.out⟩
      · obtain ⟨W, hW⟩ : ∃ W, (((((((((((((((w2.setCell ⟨wr.heap.size, 0, none⟩ (.slice q2.m (commaS s1 x).mem.length q2.mc)).setCell ⟨wr.heap.size, 1, none⟩ (.slice q2.d (commaS s1 x).data.length q2.dc)).setCell ⟨wr.heap.size, 2, none⟩ (.slice q2.r (commaS s1 x).ret.length q2.rc)).setCell ⟨wr.heap.size, 3, none⟩ (.slice q2.c (commaS s1 x).ctl.length q2.cc)).setCell ⟨wr.heap.size, 4, none⟩ (.slice q2.w (commaS s1 x).words.length q2.wc)).setCell ⟨wr.heap.size, 5, none⟩ (.slice q2.s (commaS s1 x).spots.length q2.sc)).setCell ⟨wr.heap.size, 6, none⟩ (.slice q2.o (commaS s1 x).out.length q2.oc)).setCell ⟨wr.heap.size, 7, none⟩ (.int .i64 (commaS s1 x).ip)).setCell ⟨wr.heap.size, 8, none⟩ (.int .i64 (commaS s1 x).here)).setCell ⟨wr.heap.size, 9, none⟩ (.int .i64 (commaS s1 x).pos)).setCell ⟨wr.heap.size, 10, none⟩ (.int .i64 (commaS s1 x).tok)).setCell ⟨wr.heap.size, 11, none⟩ (.int .i64 (commaS s1 x).inp)).setCell ⟨wr.heap.size, 12, none⟩ (.int .i64 (commaS s1 x).err)).setCell ⟨wr.heap.size, 13, none⟩ (.bool (commaS s1 x).comp)).setCell ⟨wr.heap.size, 14, none⟩ (.bool (commaS s1 x).halt)) = W := ⟨_, rfl⟩
        rename_i hheld
        have hSW := hheld.1
        clear hheld
        rw [hW] at hSW ⊢
        have HT : Hid (Bx W wr.heap.size 28 (stL q2 (commaS s1 x))) := Lib.hid (by rw [← hW]; exact (((((((((((((((HZ2.out.setc 0 (.slice q2.m (commaS s1 x).mem.length q2.mc)).setc 1 (.slice q2.d (commaS s1 x).data.length q2.dc)).setc 2 (.slice q2.r (commaS s1 x).ret.length q2.rc)).setc 3 (.slice q2.c (commaS s1 x).ctl.length q2.cc)).setc 4 (.slice q2.w (commaS s1 x).words.length q2.wc)).setc 5 (.slice q2.s (commaS s1 x).spots.length q2.sc)).setc 6 (.slice q2.o (commaS s1 x).out.length q2.oc)).setc 7 (.int .i64 (commaS s1 x).ip)).setc 8 (.int .i64 (commaS s1 x).here)).setc 9 (.int .i64 (commaS s1 x).pos)).setc 10 (.int .i64 (commaS s1 x).tok)).setc 11 (.int .i64 (commaS s1 x).inp)).setc 12 (.int .i64 (commaS s1 x).err)).setc 13 (.bool (commaS s1 x).comp)).setc 14 (.bool (commaS s1 x).halt)))
        have HSW : Hid (Res (w.heap.size + 2) q s W q2 (commaS s1 x)) := Lib.hid (HS.out.trans (show Res (wr.heap.size + 1) q1 s1 W q2 (commaS s1 x) by (rw [← hW]; (iterate 15 refine Res.setc ?_ HS.out.rd (Nat.le_refl _) (Nat.lt_succ_self _)); exact HC2.out.mono (by simp))) (by omega))
        have HSO := Lib.hid (HS.out.rd.spots.below hSW)
        have HGW := Lib.hid (HG.out.below hSW)
        have HRW := Lib.hid (HR.out.below hSW)
        have HBW := Lib.hid (below_two HB.out hSW)
        have HLT : Hid (Lies q2 (commaS s1 x) (fun b => b ≠ wr.heap.size)) := Lib.hid (((HC2.out.mono (show wr.heap.size + 1 ≤ _ by simp)).lies _ HS.out.rd.lies).mono (fun b h => by rcases h with h | h <;> omega))
        obtain ⟨T, hT⟩ : ∃ T, wr.heap.size = T := ⟨_, rfl⟩
        have hTl : wr.heap.size ≤ T := by rw [← hT]; exact Nat.le_refl _
        rw [hT] at HT HLT ⊢
        clear hW hS HC2 HBB hT hSW HZ2 z0 z1 z2 z3 z4 z5 z6 z7 z8 z9 z10 z11 z12 z13 z14 f0 f1 f2 f3 f4 f5 f6 f7 f8 f9 f10 f11 f12 f13 f14
        clear KEEP hcx
        have hTw : T < W.heap.size := HT.out.lt
        by_cases h0 : e1 = 0
        · subst h0
          obtain ⟨hsp1, htk1⟩ := commaS_spots (v := x) HE1.out
          have hspn : s1.spots.length ≤ s.spots.length + k := HE.out.spots
          have hlay : layS s1 x = { commaS s1 x with spots := (s1.spots.filter (keepS s1.here)) ++ [(s1.here, s1.tok)] } := rfl
          have HEN := Lib.hid (HE.out.next (by rw [HN.out]; exact hlt) HE1.out)
          rw [HXK.out] at HEN
          generalize commaS s1 x = s2 at *
          have HLAY := Lib.hid hlay
          clear hlay hsp1 htk1
          have HW0 := Lib.hid (Below.refl W.heap.size W)
          have hWw : w.heap.size + 2 ≤ W.heap.size := by omega
          go_wp2_with fail
          go_loopw [9, 10] (fun v y wi => ∃ (j : Nat), y = .int .i64 j ∧ j ≤ s1.spots.length ∧ Hid (wi.ownsRow W.heap.size 101 2 v ((s1.spots.take j).filter (keepS s1.here)).length (ecells encSp ((s1.spots.take j).filter (keepS s1.here)))) ∧ Hid (Below W.heap.size W wi)) (fun _ y _ => s1.spots.length - (intOf y).toNat)
          case atStart => exact ⟨0, rfl, by omega, Lib.hid ⟨rfl, .inl ⟨rfl, rfl⟩⟩, HW0⟩
          case round =>
            obtain ⟨j, rfl, hj, HO, HBI⟩ := hrel
            have hfl : ((s1.spots.take j).filter (keepS s1.here)).length ≤ j := by
              have := List.length_filter_le (keepS s1.here) (s1.spots.take j)
              simp at this
              omega
            by_cases hj2 : j < s1.spots.length
            · have c5 : wr.cell? ⟨w.heap.size, 5, none⟩ = some (.slice q1.s s1.spots.length q1.sc) := (HGW.out.below HBI.out).cell 5
              have c8 : wr.cell? ⟨w.heap.size, 8, none⟩ = some (.int .i64 s1.here) := (HGW.out.below HBI.out).cell 8
              obtain ⟨ad2, had, hcell⟩ := RdE.all encSp_len (by decide) (HSO.out.below HBI.out) (by omega)
              rw [had] at c5
              have e0 := hcell.at0 hj2 (v := .int .i64 (s1.spots[j]!).1) rfl
              have e1 := hcell.at' hj2 1 (by decide) (v := .int .i64 (s1.spots[j]!).2) rfl
              obtain ⟨y, hy⟩ : ∃ y, s1.spots[j]! = y := ⟨_, rfl⟩
              rw [hy] at e0 e1
              have HY := Lib.hid hy
              have HAD := Lib.hid had
              have b1 : (0 : Int) ≤ (j : Int) := by omega
              have b2 : (j : Int) < (s1.spots.length : Int) := by omega
              have hsnoc : s1.spots.take (j + 1) = s1.spots.take j ++ [y] := by
                rw [List.take_add_one, List.getElem?_eq_getElem hj2, ← hy, getElem!_pos s1.spots j hj2]
                rfl
              have HSN := Lib.hid hsnoc
              clear hy had hcell hsnoc
              by_cases hlt3 : y.1 < s1.here
              · have hk3 : keepS s1.here y = true := by unfold keepS; simpa using hlt3
                have HK3 := Lib.hid hk3
                clear hk3
                go_wp2_with fail
                go_quiet (fail)
                obtain ⟨w5, hw5⟩ : ∃ w5, wr.drewN nq = w5 := ⟨_, rfl⟩
                have c5 : w5.cell? ⟨w.heap.size, 5, none⟩ = some (.slice (some ad2) s1.spots.length q1.sc) := by rw [← hw5]; exact c5
                have e0 : w5.cell? (ad2.add (j * 2)) = some (.int .i64 y.1) := by rw [← hw5]; exact e0
                have e1 : w5.cell? ⟨(ad2.add (j * 2)).block, (ad2.add (j * 2)).off + 1, none⟩ = some (.int .i64 y.2) := by rw [← hw5]; exact e1
                have HO5 := Lib.hid (own_below HO.out (below_drewN wr nq))
                have HB5 := Lib.hid (below_two HBI.out (below_drewN wr nq))
                rw [hw5] at HO5 HB5 ⊢
                have hW5 : W.heap.size ≤ w5.heap.size := HB5.out.size
                clear c8 hw5 HO HBI
                go_wp2_with (refine wp_app (w0 := w5) rfl (.tmp 46) (.tmp 52) 26 101 _ 2 16 rfl Tryz.underlying26 infoSp rfl (by decide) (by decide) W.heap.size _ ((s1.spots.take j).filter (keepS s1.here)).length (ecells encSp ((s1.spots.take j).filter (keepS s1.here))) rfl (HO5.out.alloc _) (some ⟨w5.heap.size, 0, none⟩) 1 1 (ecells encSp [y]) rfl (rd_alloc _ _ _ _ _ _ _ _ rfl rfl (by decide) (by decide)) (ecells_one_sp _) (by omega) (by simp; omega) (((Below.refl w5.heap.size w5).alloc (Nat.le_refl _) _).mono hW5) ?_)
                intro y6 w6 ho hb _
                have HO6 := Lib.hid ho
                have HB6 := Lib.hid (HB5.out.trans hb)
                clear ho hb c5 e0 e1 HO5 HB5
                go_wp2
                go_roundw
                case rel =>
                  refine ⟨j + 1, by go_num, by omega, ?_, HB6⟩
                  rw [HSN.out, List.filter_append, List.filter_cons_of_pos HK3.out, List.filter_nil, List.length_append, ecells_app]
                  exact HO6
                case measure => simp [intOf] <;> omega
              · have hk3 : keepS s1.here y = false := by unfold keepS; simpa using hlt3
                have HK3 := Lib.hid hk3
                clear hk3
                go_wp2_with fail
                go_quiet (fail)
                have HO5 := Lib.hid (own_below HO.out (below_drewN wr nq))
                have HB5 := Lib.hid (below_two HBI.out (below_drewN wr nq))
                clear HO HBI
                go_wp2
                go_roundw
                case rel =>
                  refine ⟨j + 1, by go_num, by omega, ?_, HB5⟩
                  rw [HSN.out, List.filter_append, List.filter_cons_of_neg (by rw [HK3.out]; decide), List.filter_nil, List.append_nil]
                  exact HO5
                case measure => simp [intOf] <;> omega
            · have hjL : j = s1.spots.length := by omega
              rw [hjL, List.take_length] at HO
              rw [hjL, List.take_length] at hfl
              obtain ⟨m, hm⟩ : ∃ m, s1.spots.filter (keepS s1.here) = m := ⟨_, rfl⟩
              rw [hm] at HO hfl
              have c5 : wr.cell? ⟨w.heap.size, 5, none⟩ = some (.slice q1.s s1.spots.length q1.sc) := (HGW.out.below HBI.out).cell 5
              have c8 : wr.cell? ⟨w.heap.size, 8, none⟩ = some (.int .i64 s1.here) := (HGW.out.below HBI.out).cell 8
              have c10 : wr.cell? ⟨w.heap.size, 10, none⟩ = some (.int .i64 s1.tok) := (HGW.out.below HBI.out).cell 10
              have hWr : W.heap.size ≤ wr.heap.size := HBI.out.size
              have HMM := Lib.hid hm
              clear hm
              go_wp2_with (refine wp_app (w0 := wr) rfl (.tmp 54) (.tmp 60) 26 101 _ 2 16 rfl Tryz.underlying26 infoSp rfl (by decide) (by decide) W.heap.size _ m.length (ecells encSp m) rfl (HO.out.alloc _) (some ⟨wr.heap.size, 0, none⟩) 1 1 (ecells encSp [(s1.here, s1.tok)]) rfl (rd_alloc _ _ _ _ _ _ _ _ rfl rfl (by decide) (by decide)) (ecells_one_sp _) (by omega) (by simp; omega) (((Below.refl wr.heap.size wr).alloc (Nat.le_refl _) _).mono hWr) ?_)
              intro y6 w6 ho hb _
              have HO6 := Lib.hid ho
              have HBI6 := Lib.hid (HBI.out.trans hb)
              clear ho hb c5 c8 c10 HO HBI
              have HT6 := Lib.hid (HT.out.below HBI6.out)
              have HG6 := Lib.hid (HGW.out.below HBI6.out)
              have HR6 := Lib.hid (HRW.out.below HBI6.out)
              have HS6 := Lib.hid (HSW.out.below HBI6.out)
              have HB6 := Lib.hid (below_two HBW.out HBI6.out)
              obtain ⟨A6, c6, rfl, _⟩ := Rd.own HO6.out
              go_wp2_with (refine wp_storeF rfl 26 _ _ rfl T 5 _ rfl rfl rfl 28 (stL q2 s2) HT6.out 15 rfl (by decide) info1s ?_)
              intro w7 hg7 hw7
              have hlen : (m ++ [(s1.here, s1.tok)]).length = m.length + 1 := by simp
              have hs3 : layS s1 x = { s2 with spots := m ++ [(s1.here, s1.tok)] } := by rw [HLAY.out, ← HMM.out]
              have HT7 : Hid (Bx w7 T 28 (stL { q2 with s := A6, sc := c6 } (layS s1 x))) := Lib.hid (by
                rw [hs3]
                have e : stL { q2 with s := A6, sc := c6 } { s2 with spots := m ++ [(s1.here, s1.tok)] } = (stL q2 s2).set 5 (.slice A6 (m.length + 1) c6) := by
                  simp [stL]
                rw [e]
                exact hg7)
              have HG7 := Lib.hid (HG6.out.grown hw7 (by omega))
              have HR7 := Lib.hid (HR6.out.grown hw7 (by omega))
              have HB7 := Lib.hid (below_grown HB6.out HB6.out.size hw7 (by omega))
              have HO7 := Lib.hid (own_keep HO6.out hw7 (by omega))
              have HS7 : Hid (Res (w.heap.size + 2) q s w7 { q2 with s := A6, sc := c6 } (layS s1 x)) := Lib.hid (by
                rw [hs3]
                refine (HS6.out.grown' HLT.out hw7).withSpots ?_ ?_
                · have := own_rd HO7.out
                  rw [← ecells_app] at this
                  show Rd w7 A6 (m ++ [(s1.here, s1.tok)]).length c6 2 _
                  rw [hlen]
                  exact this
                · rw [hlen]
                  exact own_block_ge (own_mono HO7.out hWw))
              clear hg7 hw7 hlen hs3 HO6 HG6 HR6 HB6 HS6 HT6
              go_wp2_with (first
                | (refine wp_loadS rfl 28 _ rfl T rfl 28 _ _ HT7.out Tryz.underlying28 rfl 15 infoSt rfl ?_)
                | (refine wp_storeS rfl 28 _ _ rfl w.heap.size (stL { q2 with s := A6, sc := c6 } (layS s1 x)) rfl rfl 28 _ HG7.out 15 infoSt rfl rfl rfl ?_))
              intro w8 hg8 hw8
              have HG8 := Lib.hid hg8
              have HR8 := Lib.hid (HR7.out.grown hw8 (by omega))
              have HB8 := Lib.hid (below_grown HB7.out HB7.out.size hw8 (Nat.le_refl _))
              have HS8 := Lib.hid (HS7.out.grown HPw.out hw8 (Nat.le_refl _) (by omega))
              clear hg8 hw8
              go_wp2
              go_roundw
              case rel => exact ⟨k + 1, _, _, by go_num, by omega, HEN, HG8, HR8, HS8, HB8⟩
              case measure => simp [intOf] <;> omega
        · have b1 : (e1 != 0) = true := by simpa using h0
          have hst := HE.out.stop (by rw [HN.out]; exact hlt) (by rw [HE1.out]; exact h0)
          rw [HE1.out] at hst
          obtain ⟨rfl, rfl⟩ := hst
          go_wp2_with (refine wp_storeS rfl 28 _ _ rfl (w.heap.size + 1) (stL nilA zeroP) rfl rfl 28 _ HRW.out 15 infoSt rfl rfl rfl ?_)
          intro w4 hr4 hw4
          have HB4 := Lib.hid (below_grown HBW.out HBW.out.size hw4 (by omega))
          have HR4 := Lib.hid hr4
          clear hr4 hw4
          go_wp2
          refine bodyPost_ret (v := .tuple #[stV nilA zeroP, .int .i64 er]) (results_S Tryz.results82 _ _ _ 28 _ _ rfl HR4.out Tryz.underlying28 rfl 15 infoSt rfl _ rfl) rfl ?_
          exact ⟨nilA, rfl, Res.zero _ _ _ _, HB4.out⟩
    · have hd := HE.out.done (by rw [HN.out]; omega)
      obtain ⟨rfl, rfl⟩ := hd
      go_wp2_with (first
        | (refine wp_loadS rfl 28 _ rfl w.heap.size rfl 28 (stL q1 s') _ HG.out Tryz.underlying28 rfl 15 infoSt rfl ?_)
        | (refine wp_storeS rfl 28 _ _ rfl (w.heap.size + 1) (stL q1 s') rfl rfl 28 _ HR.out 15 infoSt rfl rfl rfl ?_))
      intro w4 hr4 hw4
      have HR4 := Lib.hid hr4
      have HB4 := Lib.hid (below_grown HB.out HB.out.size hw4 (by omega))
      have HS4 := Lib.hid (HS.out.grown HPw.out hw4 (by omega) (by omega))
      clear hr4 hw4
      go_wp2
      refine bodyPost_ret (v := .tuple #[stV q1 s', .int .i64 0]) (results_S Tryz.results82 _ _ _ 28 _ _ rfl HR4.out Tryz.underlying28 rfl 15 infoSt rfl _ rfl) rfl ?_
      exact ⟨_, rfl, HS4.out.mono (by omega), HB4.out⟩
end Go.Proofs.YtappfhjknihboaaGreatDoor
