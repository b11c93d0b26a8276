
/- The walk of DefsQuotes. -/
import Derived.Test.YtappfhjknihboaaGreatDoorLaws12
import Derived.BigQuiet
import Derived.Test.YtappfhjknihboaaGreatDoorPlainQ12
namespace Go.Proofs.YtappfhjknihboaaGreatDoor
open Go.RowKit

theorem rd_pre {w : World} {A : Option Addr} {c : Nat} {l r : List Int} (h : RdI w .u8 A c (l ++ r)) : RdI w .u8 A c l :=
  ⟨by simp [nums], by have := h.le; rw [List.length_append] at this; omega, h.cap, h.nil, fun j u hj => by
    refine h.cell j u ?_
    rw [show nums .u8 (l ++ r) = nums .u8 l ++ nums .u8 r by simp [nums], List.getElem?_append_left (by have := (List.getElem?_eq_some_iff.1 hj).1; exact this)]
    exact hj⟩
theorem rd_drew {w : World} {A : Option Addr} {c : Nat} {l : List Int} (h : RdI w .u8 A c l) (n : Nat) : RdI (w.drewN n) .u8 A c l :=
  ⟨h.len, h.le, h.cap, h.nil, h.cell⟩
theorem Bytes_is (A : Option Addr) (c : Nat) (i m : Int) (l : List Int) (w : World) (n : Nat) (r : List Int) (k : Nat) (hn : l.length = n) (hr : bytesR l i m = r) (ht : bytesE l.length i m = 0) (hk : r.length = k) (hx : RdI w .u8 A c l) (hm : m ≤ 9223372036854775807) :
    Calls Tryz.prog 20 #[.slice A n c, .int .i64 i, .int .i64 m] w fun e w' => ∃ A' c', e = .returned (.tuple #[.slice A' k c', .int .i64 0]) ∧ RdI w .u8 A' c' r ∧ w = w' := by
  have h := Bytes_any A c i m l w hx hm
  rw [ht, hr, hk, hn] at h
  exact h
theorem str_outS (t : ByteArray) : strOf (outS t) = t := by
  have h := strOf_bytes t.data.toList
  unfold outS
  rw [h]
set_option maxRecDepth 100000 in
set_option maxHeartbeats 8000000 in
theorem DefsQuotes_walk (q : Ad) (s : Ps) (x : Sx) (w : World) (hp : RdP w q s) (hh : -9223372036854775808 ≤ s.here ∧ s.here ≤ 9223372036854775807) (ht : Tab w) :
    Calls Tryz.prog 7 #[stV q s, suV x] w fun e w' => e = .returned (.bool true) ∧ Below w.heap.size w w' := by
  have HP := Lib.hid hp
  have HT := Lib.hid ht
  have HH := Lib.hid hh
  have hB0 := below_two (below_lit w (.cells (stL q s).toArray 28)) (below_lit _ (.cells (suL x).toArray 30))
  have hS : Bx ((w.alloc (.cells (stL q s).toArray 28)).alloc (.cells (suL x).toArray 30)) w.heap.size 28 (stL q s) := (Bx.new w _ _ _ _ rfl rfl).alloc _
  have hX : Bx ((w.alloc (.cells (stL q s).toArray 28)).alloc (.cells (suL x).toArray 30)) (w.heap.size + 1) 30 (suL x) := Bx.new _ _ _ _ _ (by simp) rfl
  obtain ⟨W, hW⟩ : ∃ W, (w.alloc (.cells #[.slice q.m s.mem.length q.mc, .slice q.d s.data.length q.dc, .slice q.r s.ret.length q.rc, .slice q.c s.ctl.length q.cc, .slice q.w s.words.length q.wc, .slice q.s s.spots.length q.sc, .slice q.o s.out.length q.oc, .int .i64 s.ip, .int .i64 s.here, .int .i64 s.pos, .int .i64 s.tok, .int .i64 s.inp, .int .i64 s.err, .bool s.comp, .bool s.halt] 28)).alloc (.cells #[.string x.src, .slice x.iA x.iN x.iC, .int .i64 x.size, .int .i64 x.depth, .int .i64 x.room] 30) = W := ⟨_, rfl⟩
  have HB0 : Hid (Below w.heap.size w W) := Lib.hid (by rw [← hW]; exact hB0)
  have HG0 : Hid (Bx W w.heap.size 28 (stL q s)) := Lib.hid (by rw [← hW]; exact hS)
  have HX0 : Hid (Bx W (w.heap.size + 1) 30 (suL x)) := Lib.hid (by rw [← hW]; exact hX)
  have HWW := Lib.hid hW
  clear hp ht hh hB0 hS hX hW
  rw [stV_eq q s, suV_eq x]
  go_enter Tryz.func7, Tryz.ntmps7
  go_upto_region 1 with fail
  rw [HWW.out]
  go_wp2_with fail
  refine (awake_any _ (HT.out.below HB0.out)).mono ?_
  rintro e w1 ⟨rfl, hb⟩
  have HB := Lib.hid (below_two HB0.out hb)
  have HG := Lib.hid (HG0.out.below hb)
  have HX := Lib.hid (HX0.out.below hb)
  clear hb HB0 HG0 HX0 HWW
  go_wp2_with (first
    | (refine wp_loadS rfl 28 _ rfl w.heap.size rfl 28 (stL q s) _ HG.out Tryz.underlying28 rfl 15 infoSt rfl ?_)
    | (refine wp_loadS rfl 30 _ rfl (w.heap.size + 1) rfl 30 (suL x) _ HX.out Tryz.underlying30 rfl 5 infoSx rfl ?_))
  refine (Few12_any q s x w1 (HP.out.below HB.out)).mono ?_
  rintro e w2 ⟨⟨b, rfl, hf⟩, hb⟩
  have HF := Lib.hid hf
  have HB := Lib.hid (below_two HB.out hb)
  have HG := Lib.hid (HG.out.below hb)
  have HX := Lib.hid (HX.out.below hb)
  clear hb hf
  cases b with
  | false =>
    go_wp2
    go_ret
    exact ⟨rfl, HB.out⟩
  | true =>
    have hfs := HF.out rfl
    have HFS := Lib.hid hfs
    have HZ : Hid (SzD s) := Lib.hid ⟨by have := hfs.few.mem; omega, by have := hfs.few.data; omega, by have := hfs.few.spots; omega, by have := hfs.few.words; omega, by have := hfs.few.out; omega, fun y hy => by have := hfs.nms y hy; omega⟩
    clear hfs HF
    obtain ⟨s1, e1, b1, hd⟩ : ∃ a b c, doD x s 129 = (a, b, c) := ⟨_, _, _, rfl⟩
    obtain rfl : b1 = true := (resF_cases (show resF (quoteD x (s, 0)) = (s1, e1, b1) from hd)).1
    have HD := Lib.hid hd
    have HPW := Lib.hid (HP.out.below HB.out)
    clear hd
    go_upto_region 4 with fail
    go_cut [6, 7, 8] (fun a b c wx => ∃ (g : Nat) (q : Ad), a = .pointer (some ⟨g, 0, none⟩) ∧ b = .int .i64 (e1) ∧ c = .bool true ∧ Hid (Bx wx g 28 (stL q s1)) ∧ Hid (RdP wx q s1) ∧ Hid (Below w2.heap.size w2 wx))
    case first =>
      refine wp_region_facts (W := w2) [fVal (stV q s), fVal (suV x), fVal (.int .i64 129), fTup s1 [.int .i64 (e1), .bool true], fTup s1 [.int .i64 (e1), .bool true], fSt s1, fVal (.int .i64 (e1)), fVal (.bool true), fBox 16 28 (stL nilA zeroP), fSet 16 28 s1, fVal (.int .i64 (e1)), fVal (.bool true)] (fun | 3 => [0, 1, 2] | 4 => [3] | 5 => [4] | 6 => [4] | 7 => [4] | 9 => [8, 5] | 10 => [6] | 11 => [7] | _ => []) (fun | 9 => 17 | i => 2 * i) _ rfl rfl (by kernel_rfl) (by kernel_rfl) ?_ ?_ ?_
      · exact (.cons (stable_val _ _) (.cons (stable_val _ _) (.cons (stable_val _ _) (.cons (stable_tup _ _ _) (.cons (stable_tup _ _ _) (.cons (stable_st _ _) (.cons (stable_val _ _) (.cons (stable_val _ _) (.cons (stable_box _ _ _ _) (.cons (stable_set _ _ _ _) (.cons (stable_val _ _) (.cons (stable_val _ _) AllStable.nil))))))))))))
      · refine ⟨?_, ?_, ?_, ?_, ?_, ?_, ?_, ?_, ?_, ?_, ?_, ?_, trivial⟩
        · intro a γ v hj hu hd hf
          exact rg_load 28 _ rfl w.heap.size (hf 2 (by decide)) 28 (stL q s) _ (HG.out.below hj.below) Tryz.underlying28 rfl 15 infoSt rfl ⟨_, rfl, .quiet rfl⟩
        · intro a γ v hj hu hd hf
          exact rg_load 30 _ rfl (w.heap.size + 1) (hf 3 (by decide)) 30 (suL x) _ (HX.out.below hj.below) Tryz.underlying30 rfl 5 infoSx rfl ⟨_, rfl, .quiet rfl⟩
        · intro a γ v hj hu hd hf
          refine rg_call 17 _ _ rfl #[.string ⟨#[46, 34]⟩] (by simp [Act.eval]) (by go_simp) _ (Find_any ⟨#[46, 34]⟩ 129 v (by decide +kernel) (by decide) (HT.out.below (below_two HB.out hj.below))) ?_
          rintro e w' ⟨rfl, hb⟩
          exact ⟨_, rfl, _, rfl, .grow hb rfl⟩
        · intro a γ v hj hu hd hf
          obtain ⟨x0, e0, rfl⟩ := hd 0 (by simp)
          obtain ⟨x1, e1', rfl⟩ := hd 1 (by simp)
          obtain ⟨x2, e2, rfl⟩ := hd 2 (by simp)
          refine rg_call 10 _ _ rfl #[stV q s, suV x, .int .i64 129] (by simp [e0 21 rfl, e1' 22 rfl, e2 23 rfl]) (by go_simp) _ (DoD_any 129 q s x s1 e1 true v HD.out (HPW.out.below hj.below) HFS.out.src HZ.out (HT.out.below (below_two HB.out hj.below))) ?_
          rintro e w' ⟨q', rfl, hres, hb⟩
          exact ⟨_, rfl, _, rfl, .grow hb ⟨q', rfl, .of_res hj (hj.lies_old HPW.out) hres⟩⟩
        · intro a γ v hj hu hd hf
          obtain ⟨x, e, q, rfl, hs⟩ := hd 3 (by simp)
          exact rg_move _ rfl _ (e 24 rfl) ⟨_, rfl, .quiet ⟨q, rfl, hs⟩⟩
        · intro a γ v hj hu hd hf
          obtain ⟨x, e, q, rfl, hs⟩ := hd 4 (by simp)
          exact rg_extract _ _ rfl _ (e 20 rfl) _ rfl ⟨_, rfl, .quiet ⟨q, rfl, hs⟩⟩
        · intro a γ v hj hu hd hf
          obtain ⟨x, e, q, rfl, hs⟩ := hd 4 (by simp)
          exact rg_extract _ _ rfl _ (e 20 rfl) _ rfl ⟨_, rfl, .quiet rfl⟩
        · intro a γ v hj hu hd hf
          obtain ⟨x, e, q, rfl, hs⟩ := hd 4 (by simp)
          exact rg_extract _ _ rfl _ (e 20 rfl) _ rfl ⟨_, rfl, .quiet rfl⟩
        · intro a γ v hj hu hd hf
          refine rg_alloc 28 rfl (stL nilA zeroP) (.agg (stL nilA zeroP).toArray) (by kernel_rfl) rfl ?_
          intro w' g hx hb h1 h2
          exact ⟨_, rfl, .box (by kernel_rfl) (by decide) hu hb h1 h2 hx⟩
        · intro a γ v hj hu hd hf
          obtain ⟨x1, e1, g, rfl, hg, hx⟩ := hd 8 (by simp)
          obtain ⟨x2, e2, q, rfl, hs⟩ := hd 5 (by simp)
          refine rg_store 28 _ _ rfl g (stL q s1) (e1 6 rfl) (e2 25 rfl) 28 _ (hx hu) 15 infoSt rfl rfl (stL_one q s1) ?_
          intro w' hx' hg'
          exact ⟨_, rfl, .set (k := 16) (by kernel_rfl) (by decide) rfl hg hu hg' ⟨q, GE.st (.set 16 g hg hu hg') hs, g, by rw [gset_other _ _ (by decide)]; exact hg, gset_same _ _ _, hx'⟩⟩
        · intro a γ v hj hu hd hf
          obtain ⟨x, e, rfl⟩ := hd 6 (by simp)
          exact rg_assign _ rfl _ (e 26 rfl) ⟨_, rfl, .quiet rfl⟩
        · intro a γ v hj hu hd hf
          obtain ⟨x, e, rfl⟩ := hd 7 (by simp)
          exact rg_assign _ rfl _ (e 27 rfl) ⟨_, rfl, .quiet rfl⟩
      · intro V γ v hj h
        obtain ⟨g, h8, hg, _⟩ := h 8 (by decide)
        obtain ⟨q', ⟨hr, _⟩, g', hg', _, hx⟩ := h 9 (by decide)
        have h10 : V 10 = .int .i64 (e1) := h 10 (by decide)
        have h11 : V 11 = .bool true := h 11 (by decide)
        simp only [List.map_cons, List.map_nil, putD, Act.put, List.setIfInBounds_toArray, List.set_cons_succ, List.set_cons_zero, Nat.reduceAdd, Nat.zero_add, h8, h10, h11]
        go_wp2_with fail
        go_meet
        rw [hg] at hg'
        cases hg'
        exact ⟨g, q', rfl, rfl, rfl, Lib.hid hx, Lib.hid hr, Lib.hid hj.below⟩
    case rest =>
      obtain ⟨g1, q1, rfl, rfl, rfl, HG1, HP1, HB1⟩ := hcut
      obtain ⟨W1, hW⟩ : ∃ W, W = wc := ⟨_, rfl⟩
      subst hW
      have HB := Lib.hid (below_two HB.out HB1.out)
      have HG := Lib.hid (HG.out.below HB1.out)
      have HX := Lib.hid (HX.out.below HB1.out)
      clear HB1 HPW
      by_cases he : e1 = 0
      · subst he
        have a13 : W1.cell? ⟨w.heap.size, 13, none⟩ = some (.bool s.comp) := HG.out.cell 13
        cases hc : s.comp with
        | false =>
          obtain ⟨o1, o2, o3, o4⟩ := quote_said HD.out hc
          obtain ⟨t, ht⟩ : ∃ t, quoT x s = t := ⟨_, rfl⟩
          rw [ht] at o1
          obtain ⟨N0, hN0⟩ : ∃ n, s.out.length = n := ⟨_, rfl⟩
          obtain ⟨n, hn⟩ : ∃ n, t.size = n := ⟨_, rfl⟩
          obtain ⟨L, hL⟩ : ∃ n, s.mem.length = n := ⟨_, rfl⟩
          have hN1 : s1.out.length = N0 + n := by rw [o1, List.length_append, outS_len, hN0, hn]
          rw [hN1] at o4
          rw [hc] at a13
          have hro := HP1.out.out
          have hle := hro.le
          have hcp := hro.cap
          unfold maxLen at hcp
          have w0 : W1.cell? ⟨w.heap.size, 0, none⟩ = some (.slice q.m L q.mc) := by have h := HG.out.cell 0; rw [← hL]; exact h
          have w6 : W1.cell? ⟨w.heap.size, 6, none⟩ = some (.slice q.o N0 q.oc) := by have h := HG.out.cell 6; rw [← hN0]; exact h
          have w8 : W1.cell? ⟨w.heap.size, 8, none⟩ = some (.int .i64 s.here) := HG.out.cell 8
          have v0 : W1.cell? ⟨g1, 0, none⟩ = some (.slice q1.m L q1.mc) := by have h := HG1.out.cell 0; rw [← hL, ← o2]; exact h
          have v6 : W1.cell? ⟨g1, 6, none⟩ = some (.slice q1.o (N0 + n) q1.oc) := by have h := HG1.out.cell 6; rw [← hN1]; exact h
          have v8 : W1.cell? ⟨g1, 8, none⟩ = some (.int .i64 s.here) := by have h := HG1.out.cell 8; rw [← o3]; exact h
          have x4 : W1.cell? ⟨w.heap.size + 1, 4, none⟩ = some (.int .i64 x.room) := HX.out.cell 4
          have k0 := fun n => conv_rd (P := Tryz.prog) Tryz.underlying22 Tryz.underlying5 Tryz.underlying9 (rd_drew ((HP.out.below HB.out).mem) n)
          have k1 := fun n => conv_rd (P := Tryz.prog) Tryz.underlying22 Tryz.underlying5 Tryz.underlying9 (rd_drew (HP1.out.mem) n)
          have k2 := fun n => conv_rd (P := Tryz.prog) Tryz.underlying22 Tryz.underlying5 Tryz.underlying9 (rd_drew ((HP.out.below HB.out).out) n)
          have k3 := fun n => conv_rd (P := Tryz.prog) Tryz.underlying22 Tryz.underlying5 Tryz.underlying9 (rd_drew (rd_pre (l := s.out) (r := outS t) (by rw [← o1]; exact hro)) n)
          simp only [hL] at k0
          simp only [o2, hL] at k1
          simp only [hN0] at k2 k3
          rw [hN1] at hle
          clear o1 o2 o3 hN0 hN1 hL hro ht hn hc
          have g0 : (N0 : Int) ≤ N0 + n := by omega
          have g1' : (N0 : Int) ≤ q1.oc := by omega
          have k4 : decide ((N0 : Int) + n ≤ max x.room N0) = true := decide_eq_true (Int.le_trans (by push_cast at o4; exact o4) (Int.le_max_left _ _))
          clear o4
          go_upto_region 8 with fail
          go_quiet (fail)
          go_wp2
          all_goals go_ret
          exact ⟨rfl, below_two HB.out (below_drewN _ _)⟩
        | true =>
          obtain ⟨h0, hfit, hlen, cE, cR, bE, bR, hh, hup, hpos⟩ := quote_laid HD.out hc (by have := HFS.out.few.mem; omega) HFS.out.src
          have hqs := quoT_size x s HFS.out.src
          obtain ⟨P, hP⟩ : ∃ p, behind x.src (untilB x.src s.pos 34) = p := ⟨_, rfl⟩
          obtain ⟨lo, hlo⟩ : ∃ p, P - (quoT x s).size - 1 = p := ⟨_, rfl⟩
          obtain ⟨z1, z2, z3⟩ := quote_text x s P lo hP.symm hlo.symm
          rw [hP] at hpos
          obtain ⟨t, ht⟩ : ∃ t, quoT x s = t := ⟨_, rfl⟩
          rw [ht] at hfit cR bE bR hh hup hlo z3 hqs
          obtain ⟨T, hT⟩ : ∃ T, x.src.extract lo P = T := ⟨_, rfl⟩
          rw [hT] at z3
          obtain ⟨n, hn⟩ : ∃ n, t.size = n := ⟨_, rfl⟩
          rw [hn] at hfit cR bE bR hh hup hlo hqs z3
          obtain ⟨U, hU⟩ : ∃ u, upR (n : Int) = u := ⟨_, rfl⟩
          rw [hU] at hh hup
          obtain ⟨H, hH⟩ : ∃ h, s.here = h := ⟨_, rfl⟩
          rw [hH] at h0 hfit cE cR bE bR hh hup
          obtain ⟨L, hL⟩ : ∃ l, s1.mem.length = l := ⟨_, rfl⟩
          have hLb : L ≤ 100000 := by rw [← hL, hlen]; have := HFS.out.few.mem; omega
          rw [← hlen, hL] at hfit hup
          have hU0 : (n : Int) ≤ U := by rw [← hU]; exact up_ge (by omega) (by omega)
          rw [hc] at a13
          have x0 : W1.cell? ⟨w.heap.size + 1, 0, none⟩ = some (.string x.src) := HX.out.cell 0
          have w8 : W1.cell? ⟨w.heap.size, 8, none⟩ = some (.int .i64 H) := by have h := HG.out.cell 8; rw [← hH]; exact h
          have v0 : W1.cell? ⟨g1, 0, none⟩ = some (.slice q1.m L q1.mc) := by have h := HG1.out.cell 0; rw [← hL]; exact h
          have v8 : W1.cell? ⟨g1, 8, none⟩ = some (.int .i64 (H + 16 + U)) := by have h := HG1.out.cell 8; rw [← hh]; exact h
          have v9 : W1.cell? ⟨g1, 9, none⟩ = some (.int .i64 P) := by have h := HG1.out.cell 9; rw [← hpos]; exact h
          have hmax : max ((P : Int) - n - 1) 0 = lo := by omega
          have p0 : (0 : Int) ≤ P := by omega
          have p1 : (P : Int) ≤ x.src.size := by omega
          have p2 : (P : Int) ≤ 200 := by have := HFS.out.src; omega
          have p3 : (lo : Int) ≤ P := by omega
          have p4 : (0 : Int) ≤ lo := by omega
          have CE := Lib.hid cE
          have CR := Lib.hid cR
          have BE := Lib.hid bE
          have BR := Lib.hid bR
          have HU := Lib.hid hU
          have HL := Lib.hid hL
          have HN := Lib.hid hn
          have HTT := Lib.hid hT
          have Z3 := Lib.hid z3
          clear cE cR bE bR hU hL hn hT z3 hc hlen hh hpos hP hlo ht hH
          go_wp2_with fail
          refine (Cell_is q1.m q1.mc (H + 8) s1.mem W1 L n 0 HL.out CR.out CE.out HP1.out.mem HP1.out.memB).mono ?_
          rintro e w' ⟨rfl, rfl⟩
          go_wp2_with fail
          refine (Bytes_is q1.m q1.mc (H + 16) n s1.mem W1 L (outS t) n HL.out BR.out BE.out (by rw [outS_len, HN.out]) HP1.out.mem (by omega)).mono ?_
          rintro e w' ⟨A', c', rfl, hb, rfl⟩
          have kb : ∀ m, (convert 22 9 (.slice A' n c')).run Tryz.prog (W1.drewN m) = .ok (.string t) (W1.drewN m) := fun m => by
            have h := conv_rd (P := Tryz.prog) Tryz.underlying22 Tryz.underlying5 Tryz.underlying9 (rd_drew hb m)
            rw [outS_len, HN.out, str_outS] at h
            exact h
          clear hb
          have hw1 : wrap64 (H + 16 + U) = H + 16 + U := wrap_in (by omega) (by omega)
          have e1 : IntKind.i64.wrap (H + 16 + U) = H + 16 + U := IntWalk.i64_in _ (by omega)
          have e2 : IntKind.i64.wrap (H + 16) = H + 16 := IntWalk.i64_in _ (by omega)
          go_upto_region 14 with fail
          rw [HTT.out]
          have UP : ∀ m, Calls Tryz.prog 18 #[.int .i64 n] (W1.drewN m) fun e w'' => e = .returned (.int .i64 U) ∧ ∃ k, w'' = W1.drewN k := fun m => quiet_sw (RUp_any n U (W1.drewN m) HU.out (by omega) (by omega))
          have tsz : t.size ≤ 9223372036854775806 := by have := HN.out; omega
          rcases Z3.out with h1 | ⟨h1, h2⟩
          · subst h1
            go_quiet (exact UP _)
            go_wp2
            go_ret
            exact ⟨rfl, below_two HB.out (below_drewN _ _)⟩
          · have m0 : (n : Int) ≤ T.size := by omega
            have m1 : (T.size : Int) ≤ 200 := by rw [← HTT.out, ByteArray.size_extract]; omega
            clear h1
            by_cases hq : T = t ++ ⟨#[34]⟩
            · clear h2 m0 m1
              subst hq
              go_quiet (exact UP _)
              go_wp2
              go_ret
              exact ⟨rfl, below_two HB.out (below_drewN _ _)⟩
            · have hq2 : ¬ T.toList = (t ++ ⟨#[34]⟩).toList := fun h => hq (by rw [ByteArray.toList_eq, ByteArray.toList_eq] at h; exact ByteArray.ext (Array.toList_inj.1 h))
              have hq3 : (T.toList == (t ++ ⟨#[34]⟩).toList) = false := by simpa using hq2
              clear hq
              go_quiet (exact UP _)
              go_wp2
              go_ret
              exact ⟨rfl, below_two HB.out (below_drewN _ _)⟩
      · go_wp2
        go_ret
        exact ⟨rfl, HB.out⟩
end Go.Proofs.YtappfhjknihboaaGreatDoor
