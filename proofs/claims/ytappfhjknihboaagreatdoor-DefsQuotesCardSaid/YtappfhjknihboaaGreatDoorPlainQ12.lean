
/- What a text that is compiled leaves. No program in sight. -/
import Derived.Test.YtappfhjknihboaaGreatDoorPlainM12
import Derived.Test.YtappfhjknihboaaGreatDoorRQuoteD
import Derived.Test.YtappfhjknihboaaGreatDoorPlain03b
namespace Go.Proofs.YtappfhjknihboaaGreatDoor
open Go.RowKit

theorem outS_getD (t : ByteArray) (q : Nat) : (outS t).getD q 0 = bt t q := by
  rw [bt_list]
  unfold outS
  rw [List.getD_eq_getElem?_getD, List.getElem?_map]
  cases t.data.toList[q]? <;> rfl
def wrB (H : Nat) (t : ByteArray) : Nat → Nat → List Int → List Int
  | 0, _, m => m
  | k + 1, j, m => wrB H t k (j + 1) (setB m ((H + j : Nat) : Int) (bt t j))
theorem wrB_len (H : Nat) (t : ByteArray) : ∀ (k j : Nat) (m : List Int), H + j + k ≤ m.length → (wrB H t k j m).length = m.length
  | 0, _, _, _ => rfl
  | k + 1, j, m, h => by
    have hs : (setB m ((H + j : Nat) : Int) (bt t j)).length = m.length := setB_len (by omega) (by omega)
    rw [wrB, wrB_len H t k (j + 1) _ (by rw [hs]; omega), hs]
theorem setB_getD {m : List Int} {i : Nat} (h : i < m.length) {v : Int} (h0 : 0 ≤ v) (h1 : v < 256) (q : Nat) : (setB m (i : Int) v).getD q 0 = if q = i then v else m.getD q 0 := by
  unfold setB
  rw [if_pos (byte_ok (by omega) (by omega)), Int.toNat_natCast, L03.getD_splice (by simp; omega)]
  simp only [List.length_cons, List.length_nil]
  by_cases hq : q = i
  · subst hq
    rw [if_pos (by omega), if_pos rfl, Nat.sub_self]
    show v % 256 = v
    omega
  · rw [if_neg (by omega), if_neg hq]
theorem wrB_getD (H : Nat) (t : ByteArray) : ∀ (k j : Nat) (m : List Int) (q : Nat), H + j + k ≤ m.length → (wrB H t k j m).getD q 0 = if H + j ≤ q ∧ q < H + j + k then bt t (q - H) else m.getD q 0
  | 0, j, m, q, _ => by rw [wrB, if_neg (by omega)]
  | k + 1, j, m, q, h => by
    have hs : (setB m ((H + j : Nat) : Int) (bt t j)).length = m.length := setB_len (by omega) (by omega)
    rw [wrB, wrB_getD H t k (j + 1) _ q (by rw [hs]; omega), setB_getD (by omega) (bt_range t j).1 (bt_range t j).2]
    by_cases h1 : H + (j + 1) ≤ q ∧ q < H + (j + 1) + k
    · rw [if_pos h1, if_pos (by omega)]
    · rw [if_neg h1]
      by_cases h2 : q = H + j
      · rw [if_pos h2, if_pos (by omega), show q - H = j by omega]
      · rw [if_neg h2, if_neg (by omega)]
theorem sets_wr (H : Nat) (t : ByteArray) : ∀ (k j : Nat) (s : Ps), s.here = H → H + j + k ≤ s.mem.length → s.mem.length ≤ 1000000 → setsD t k j (s, 0) = ({ s with mem := wrB H t k j s.mem }, 0)
  | 0, _, s, _, _, _ => rfl
  | k + 1, j, s, hH, h, hl => by
    have hs : (setB s.mem ((H + j : Nat) : Int) (bt t j)).length = s.mem.length := setB_len (by omega) (by omega)
    have hw : wrap64 (s.here + j) = ((H + j : Nat) : Int) := by rw [hH, wrap_in (by omega) (by omega)]; push_cast; rfl
    rw [setsD, setD, if_pos rfl]
    simp only
    rw [hw, byte_ok (by omega) (by omega)]
    rw [sets_wr H t k (j + 1) { s with mem := setB s.mem ((H + j : Nat) : Int) (bt t j) } hH (by show H + (j + 1) + k ≤ (setB s.mem ((H + j : Nat) : Int) (bt t j)).length; rw [hs]; omega) (by show (setB s.mem ((H + j : Nat) : Int) (bt t j)).length ≤ _; rw [hs]; exact hl)]
    rfl
theorem sets_err {t : ByteArray} {s : Ps} {e : Int} (he : e ≠ 0) : ∀ k j, setsD t k j (s, e) = (s, e)
  | 0, _ => rfl
  | k + 1, j => by
    rw [setsD, setD, if_neg he]
    exact sets_err he k (j + 1)
theorem getD_ext {a b : List Int} (hl : a.length = b.length) (h : ∀ q, q < a.length → a.getD q 0 = b.getD q 0) : a = b := by
  refine List.ext_getElem hl fun q h1 h2 => ?_
  have := h q h1
  rwa [List.getD_eq_getElem?_getD, List.getD_eq_getElem?_getD, List.getElem?_eq_getElem h1, List.getElem?_eq_getElem h2] at this
theorem win_getD (l : List Int) (i n q : Nat) : ((l.drop i).take n).getD q 0 = if q < n then l.getD (i + q) 0 else 0 := by
  rw [List.getD_eq_getElem?_getD, List.getElem?_take]
  by_cases h : q < n
  · rw [if_pos h, if_pos h, List.getElem?_drop, List.getD_eq_getElem?_getD]
  · rw [if_neg h, if_neg h]
    rfl
/-- A cell ahead of what is written stays. -/
theorem cellR_wr (H : Nat) (t : ByteArray) (k : Nat) (m : List Int) (i : Nat) (h : H + k ≤ m.length) (hi : i + 8 ≤ H) : cellR (wrB H t k 0 m) i = cellR m i := by
  unfold cellR
  rw [wrB_len H t k 0 m (by omega)]
  have e : cellAt (wrB H t k 0 m) (i : Int).toNat = cellAt m (i : Int).toNat := by
    unfold cellAt
    congr 1
    refine getD_ext (by simp [wrB_len H t k 0 m (by omega)]) fun q hq => ?_
    rw [win_getD, win_getD]
    have hq8 : q < 8 := by simp at hq; omega
    rw [if_pos hq8, if_pos hq8, Int.toNat_natCast, wrB_getD H t k 0 m _ (by omega), if_neg (by omega)]
  rw [e]
theorem bytesR_wr (H : Nat) (t : ByteArray) (m : List Int) (h : H + t.size ≤ m.length) : bytesR (wrB H t t.size 0 m) H t.size = outS t ∧ bytesE (wrB H t t.size 0 m).length H t.size = 0 := by
  have hl := wrB_len H t t.size 0 m (by omega)
  have he : bytesE (wrB H t t.size 0 m).length H t.size = 0 := by
    unfold bytesE
    rw [hl, if_neg (by omega)]
  refine ⟨?_, he⟩
  unfold bytesR
  rw [if_pos he, Int.toNat_natCast, Int.toNat_natCast]
  refine getD_ext (by rw [outS_len, List.length_take, List.length_drop, hl]; omega) fun q hq => ?_
  have hq2 : q < t.size := by rw [List.length_take, List.length_drop, hl] at hq; omega
  rw [win_getD, if_pos hq2, outS_getD, wrB_getD H t t.size 0 m _ (by omega), if_pos (by omega), show H + q - H = q by omega]
theorem emit2_mem {s : Ps} {a b : Int} (h : emitE s [a, b] = 0) : (emitS s [a, b]).mem = setC (setC s.mem s.here a) (s.here + 8) b ∧ cellE s.mem.length s.here = 0 ∧ cellE s.mem.length (s.here + 8) = 0 := by
  unfold emitE at h
  by_cases h1 : commaE s = 0
  · rw [if_pos h1] at h
    unfold emitE at h
    by_cases h2 : commaE (layS s a) = 0
    · have c1 : cellE s.mem.length s.here = 0 := by
        unfold commaE at h1
        split at h1
        · exact absurd h1 (by decide)
        · exact h1
      have hl : (layS s a).mem.length = s.mem.length := layS_mem h1
      have hh : (layS s a).here = s.here + 8 := layS_here h1
      have c2 : cellE s.mem.length (s.here + 8) = 0 := by
        unfold commaE at h2
        rw [hl, hh] at h2
        split at h2
        · exact absurd h2 (by decide)
        · exact h2
      refine ⟨?_, c1, c2⟩
      have m1 : (layS s a).mem = setC s.mem s.here a := by
        unfold layS commaS
        rw [if_pos h1]
      have m2 : (layS (layS s a) b).mem = setC (layS s a).mem (layS s a).here b := by
        show (commaS (layS s a) b).mem = _
        unfold commaS
        rw [if_pos h2]
      rw [emitS, if_pos h1, emitS, if_pos h2, emitS, m2, m1, hh]
    · rw [if_neg h2] at h
      exact absurd h h2
  · rw [if_neg h1] at h
    exact absurd h h1
set_option maxHeartbeats 4000000 in
theorem quote_laid {x : Sx} {s s1 : Ps} {b : Bool} (h : doD x s 129 = (s1, 0, b)) (hc : s.comp = true) (hm : s.mem.length ≤ 100000) (hx : x.src.size ≤ 200) :
    0 ≤ s.here ∧ s.here + 16 + (quoT x s).size ≤ s.mem.length ∧ s1.mem.length = s.mem.length ∧ cellE s1.mem.length (s.here + 8) = 0 ∧ cellR s1.mem (s.here + 8) = (quoT x s).size ∧ bytesE s1.mem.length (s.here + 16) (quoT x s).size = 0 ∧ bytesR s1.mem (s.here + 16) (quoT x s).size = outS (quoT x s) ∧
      s1.here = s.here + 16 + upR (quoT x s).size ∧ s.here + 16 + upR (quoT x s).size ≤ s.mem.length ∧ s1.pos = (behind x.src (untilB x.src s.pos 34) : Int) := by
  have h : resF (quoteD x (s, 0)) = (s1, 0, b) := h
  have h4 := (resF_cases h).2.2 rfl
  have hn := quoT_size x s hx
  obtain ⟨t, ht⟩ : ∃ t, quoT x s = t := ⟨_, rfl⟩
  unfold quoteD at h4
  simp only at h4
  rw [if_pos hc, ht] at h4
  rw [ht] at hn ⊢
  unfold layD upsD at h4
  obtain ⟨s0, hs0⟩ : ∃ a, quoP x s = a := ⟨_, rfl⟩
  have f0 : s0.mem = s.mem ∧ s0.here = s.here ∧ s0.pos = (behind x.src (untilB x.src s.pos 34) : Int) := by rw [← hs0]; exact ⟨rfl, rfl, rfl⟩
  rw [hs0] at h4
  obtain ⟨s2, e2, hem⟩ : ∃ a c, emitD (s0, 0) [10, (t.size : Int)] = (a, c) := ⟨_, _, rfl⟩
  rw [hem] at h4
  have he2 : e2 = 0 := by
    by_cases he : e2 = 0
    · exact he
    · exfalso
      have hr : roomD (upR t.size) (s2, e2) = (s2, e2) := by unfold roomD; rw [if_neg (fun h => he h.1)]
      rw [hr, sets_err he] at h4
      injection h4 with _ h5
      exact he h5
  subst he2
  obtain ⟨_, h2, h3⟩ := emitD_ok hem
  simp only at h2 h3
  obtain ⟨g1, g2, g3, g4⟩ := emit_two h2
  obtain ⟨q1, q2, q3⟩ := emit2_mem h2
  rw [← h3] at g1 g4 q1
  rw [f0.2.1] at g1 g2 g3 q1 q2 q3
  rw [f0.1] at g3 g4 q1 q2 q3
  obtain ⟨H, hH⟩ := Int.eq_ofNat_of_zero_le (show 0 ≤ s.here + 16 by omega)
  have hH2 : s2.here = (H : Int) := by rw [g1, hH]
  have hup := up_ge (n := t.size) (by omega) (by omega)
  have hwr : wrap64 ((s2.mem.length : Int) - s2.here) = (s2.mem.length : Int) - s2.here := wrap_in (by omega) (by omega)
  have hroom : ¬ ((s2.mem.length : Int) - s2.here < upR t.size) := by
    intro hlt
    have hr : roomD (upR t.size) (s2, 0) = (s2, -8) := by unfold roomD; rw [if_pos ⟨rfl, by rw [hwr]; exact hlt⟩]
    rw [hr, sets_err (show (-8 : Int) ≠ 0 by decide)] at h4
    injection h4 with _ h5
    exact absurd (show (-8 : Int) = 0 from h5) (by decide)
  have hr : roomD (upR t.size) (s2, 0) = (s2, 0) := by unfold roomD; rw [if_neg (fun h => hroom (by have h := h.2; rw [hwr] at h; exact h))]
  have hbd : H + 0 + t.size ≤ s2.mem.length := by
    clear h4 hr hwr hem h2 h3 q1 q2 q3 hs0 f0
    omega
  have hbl : s2.mem.length ≤ 1000000 := by
    clear h4 hr hwr hem h2 h3 q1 q2 q3 hs0 f0
    omega
  have hsw := sets_wr H t t.size 0 s2 hH2 hbd hbl
  rw [hr, hsw] at h4
  injection h4 with h5 _
  have hfit : (H : Int) + upR t.size ≤ s.mem.length := by
    clear hr hwr hem h2 h3 q1 q2 q3 hs0 f0 h5 hsw
    omega
  have hw2 : wrap64 (s2.here + upR t.size) = s2.here + upR t.size := by
    clear hr hwr hem h2 h3 q1 q2 q3 hs0 f0 h5 hsw
    exact wrap_in (by omega) (by omega)
  have hmem : s1.mem = wrB H t t.size 0 s2.mem := by rw [← h5]
  have hlen : s1.mem.length = s.mem.length := by rw [hmem, wrB_len H t t.size 0 s2.mem hbd, g4]
  obtain ⟨b1, b2⟩ := bytesR_wr H t s2.mem (by rw [Nat.add_zero] at hbd; exact hbd)
  obtain ⟨k, hk, hk8, _⟩ := L03.cellE_zero q3
  have hkH : k + 8 ≤ H := by
    clear h5 hr hwr hem h2 h3 q1 q2 q3 hs0 f0 hsw hmem
    omega
  have hn0 : (t.size : Int) ≤ 9223372036854775807 := by
    clear h5 hr hwr hem h2 h3 q1 q2 q3 hs0 f0 hsw hmem
    omega
  refine ⟨g2, ?_, hlen, by rw [hlen]; exact q3, ?_, ?_, ?_, ?_, ?_, ?_⟩
  · clear h5 hr hwr hem h2 h3 q1 q2 q3 hs0 f0 hsw hmem
    omega
  · rw [hmem, hk, cellR_wr H t t.size s2.mem k (by rw [Nat.add_zero] at hbd; exact hbd) hkH, ← hk, q1]
    have hl1 : (setC s.mem s.here 10).length = s.mem.length := L03.setC_length q2
    exact L03.cellR_setC (by rw [hl1]; exact q3) (Int.le_trans (by decide) (Int.natCast_nonneg _)) hn0
  · rw [hmem, hH]
    exact b2
  · rw [hmem, hH]
    exact b1
  · rw [← h5]
    show wrap64 (s2.here + upR t.size) = _
    rw [hw2, g1]
  · rw [hH]
    exact hfit
  · rw [← h5]
    show s2.pos = _
    have : s2.pos = s0.pos := by
      rw [h3]
      exact emit_pos _ _ h2
    rw [this, f0.2.2]
/-- One that isn't compiled is said. -/
theorem quote_said {x : Sx} {s s1 : Ps} {b : Bool} (h : doD x s 129 = (s1, 0, b)) (hc : s.comp = false) :
    s1.out = s.out ++ outS (quoT x s) ∧ s1.mem = s.mem ∧ s1.here = s.here ∧ (s1.out.length : Int) ≤ x.room := by
  have h : resF (quoteD x (s, 0)) = (s1, 0, b) := h
  have h4 := (resF_cases h).2.2 rfl
  unfold quoteD at h4
  simp only at h4
  rw [if_neg (by rw [hc]; decide)] at h4
  unfold sayD at h4
  simp only at h4
  by_cases h0 : thr 0 (sayE (quoP x s) x (quoT x s)) = 0
  · rw [if_pos h0] at h4
    injection h4 with h5 _
    have h0' : sayE (quoP x s) x (quoT x s) = 0 := h0
    unfold sayE at h0'
    split at h0'
    · exact absurd h0' (by decide)
    · rename_i hr
      rw [← h5]
      unfold sayS
      rw [if_neg hr]
      refine ⟨rfl, rfl, rfl, ?_⟩
      show ((s.out ++ outS (quoT x s)).length : Int) ≤ _
      have hr : ¬ x.room < (s.out.length : Int) + (quoT x s).size := hr
      rw [List.length_append, outS_len]
      push_cast
      omega
  · rw [if_neg h0] at h4
    injection h4 with _ h6
    exact absurd h6 h0

theorem bt_eq {a b : ByteArray} (hs : a.size = b.size) (h : ∀ i, i < a.size → bt a i = bt b i) : a = b := by
  refine ByteArray.ext (Array.ext hs fun i h1 h2 => ?_)
  have h3 : i < a.size := h1
  have h4 : i < b.size := h2
  have := h i h3
  unfold bt at this
  rw [dif_pos h3, dif_pos h4] at this
  exact UInt8.toNat_inj.1 (Int.ofNat_inj.1 this)
theorem bt_app (a b : ByteArray) (i : Nat) : bt (a ++ b) i = if i < a.size then bt a i else bt b (i - a.size) := by
  rw [bt_list, bt_list, bt_list, show (a ++ b).data.toList = a.data.toList ++ b.data.toList by rw [ByteArray.data_append, Array.toList_append]]
  by_cases h : i < a.size
  · rw [if_pos h, List.getElem?_append_left (by simpa using h)]
  · rw [if_neg h, List.getElem?_append_right (by simpa using h)]
    rfl
/-- The text as it stands in the source. -/
theorem quote_text (x : Sx) (s : Ps) (P lo : Nat) (hP : P = behind x.src (untilB x.src s.pos 34)) (hlo : lo = P - (quoT x s).size - 1) :
    P ≤ x.src.size ∧ lo ≤ P ∧ (x.src.extract lo P = quoT x s ++ ⟨#[34]⟩ ∨ (quoT x s).size ≤ (x.src.extract lo P).size ∧ (x.src.extract lo P).extract ((x.src.extract lo P).size - (quoT x s).size) (x.src.extract lo P).size = quoT x s) := by
  have ha := untilA_le x.src s.pos
  have hab : untilA x.src s.pos ≤ untilB x.src s.pos 34 := skip_ge ha
  have hb : untilB x.src s.pos 34 ≤ x.src.size := skip_le ha
  have hat : untilB x.src s.pos 34 < x.src.size → isNot 34 (bt x.src (untilB x.src s.pos 34)) = false := skip_at ha
  have hq : quoT x s = x.src.extract (untilA x.src s.pos) (untilB x.src s.pos 34) := rfl
  generalize untilA x.src s.pos = a at *
  generalize untilB x.src s.pos 34 = e at *
  have hn : (quoT x s).size = e - a := by rw [hq, ByteArray.size_extract]; omega
  rw [hn] at hlo ⊢
  rw [hq]
  unfold behind at hP
  by_cases h1 : e < x.src.size
  · rw [if_pos h1] at hP
    refine ⟨by omega, by omega, .inl ?_⟩
    have h34 : bt x.src e = 34 := by
      have := hat h1
      unfold isNot at this
      simpa using this
    have hlo2 : lo = a := by omega
    subst hlo2 hP
    refine bt_eq (by rw [ByteArray.size_append, ByteArray.size_extract, ByteArray.size_extract]; show _ = _ + 1; omega) fun i hi => ?_
    rw [ByteArray.size_extract] at hi
    rw [bt_ext _ _ _ _ (by omega), bt_app, ByteArray.size_extract]
    by_cases hi2 : i < min e x.src.size - lo
    · rw [if_pos hi2, bt_ext _ _ _ _ (by omega)]
    · rw [if_neg hi2, show i - (min e x.src.size - lo) = 0 by omega, show lo + i = e by omega, h34]
      rfl
  · rw [if_neg h1] at hP
    have he : e = x.src.size := by omega
    refine ⟨by omega, by omega, .inr ?_⟩
    have hsz : (x.src.extract lo P).size = P - lo := by rw [ByteArray.size_extract]; omega
    rw [hsz]
    refine ⟨by omega, ?_⟩
    refine bt_eq (by rw [ByteArray.size_extract, ByteArray.size_extract, ByteArray.size_extract]; omega) fun i hi => ?_
    rw [ByteArray.size_extract, hsz] at hi
    rw [bt_ext _ _ _ _ (by omega), bt_ext _ _ _ _ (by omega), bt_ext _ _ _ _ (by omega), show lo + (P - lo - (e - a) + i) = a + i by omega]
end Go.Proofs.YtappfhjknihboaaGreatDoor
