
/- What the words that make words leave; what is found then. No program in sight. -/
import Derived.Test.YtappfhjknihboaaGreatDoorPlainS12
import Derived.Test.YtappfhjknihboaaGreatDoorRMakesD
import Derived.Test.YtappfhjknihboaaGreatDoorPlain03b
namespace Go.Proofs.YtappfhjknihboaaGreatDoor
open Go.RowKit

theorem findN_snoc (l : List Wd) (x : Wd) (f : ByteArray) : L07.findN (l ++ [x]) f = if L07.isW f x then (l.length : Int) else L07.findN l f := by
  unfold L07.findN
  rw [List.reverse_append, List.reverse_singleton, List.singleton_append, List.findIdx_cons, List.length_append, List.length_singleton]
  cases L07.isW f x with
  | true => simp
  | false =>
    simp
    omega
theorem emitD_ok {y : Ps × Int} {l : List Int} {s : Ps} (h : emitD y l = (s, 0)) : y.2 = 0 ∧ emitE y.1 l = 0 ∧ s = emitS y.1 l := by
  unfold emitD at h
  by_cases h0 : y.2 = 0
  · rw [if_pos h0] at h
    by_cases h1 : emitE y.1 l = 0
    · rw [if_pos h1] at h
      injection h with h2 _
      exact ⟨h0, h1, h2.symm⟩
    · rw [if_neg h1] at h
      injection h with _ h3
      exact absurd h3 h1
  · rw [if_neg h0] at h
    exact absurd (by rw [h]) h0
theorem emit_rest : ∀ (l : List Int) (s : Ps), emitE s l = 0 → (emitS s l).words = s.words ∧ (emitS s l).ctl = s.ctl ∧ (emitS s l).comp = s.comp ∧ (emitS s l).out = s.out
  | [], s, _ => ⟨rfl, rfl, rfl, rfl⟩
  | v :: r, s, h => by
    unfold emitE at h
    by_cases hc : commaE s = 0
    · rw [if_pos hc] at h
      have ih := emit_rest r (layS s v) h
      have hl : (layS s v).words = s.words ∧ (layS s v).ctl = s.ctl ∧ (layS s v).comp = s.comp ∧ (layS s v).out = s.out := by
        unfold layS commaS
        rw [if_pos hc]
        exact ⟨rfl, rfl, rfl, rfl⟩
      rw [emitS, if_pos hc, ih.1, ih.2.1, ih.2.2.1, ih.2.2.2]
      exact hl
    · rw [if_neg hc] at h
      exact absurd h hc
theorem emit_pos : ∀ (l : List Int) (s : Ps), emitE s l = 0 → (emitS s l).pos = s.pos
  | [], s, _ => rfl
  | v :: r, s, h => by
    unfold emitE at h
    by_cases hc : commaE s = 0
    · rw [if_pos hc] at h
      have hl : (layS s v).pos = s.pos := by
        unfold layS commaS
        rw [if_pos hc]
      rw [emitS, if_pos hc, emit_pos r (layS s v) h, hl]
    · rw [if_neg hc] at h
      exact absurd h hc
/-- The word that is made. -/
def madeW (x : Sx) (s : Ps) (hid : Bool) : Wd := ⟨foldB (tokS x s), upR s.here, false, hid⟩
theorem create_ok {x : Sx} {hid : Bool} {code : List Int} {s s1 : Ps} (h : createD x hid code (s, 0) = (s1, 0)) : s1.words = s.words ++ [madeW x s hid] ∧ s1.ctl = s.ctl ∧ s1.comp = s.comp ∧ s1.out = s.out ∧ s1.mem.length = s.mem.length := by
  have hml := createD_mem h
  unfold createD makeD at h
  by_cases h0 : (upD (nameD x (s, 0))).2 = 0
  · rw [if_pos h0] at h
    obtain ⟨_, h2, h3⟩ := emitD_ok h
    obtain ⟨r1, r2, r3, r4⟩ := emit_rest _ _ h2
    refine ⟨?_, ?_, ?_, ?_, hml⟩
    · rw [h3, r1]
      rfl
    · rw [h3, r2]
      rfl
    · rw [h3, r3]
      rfl
    · rw [h3, r4]
      rfl
  · rw [if_neg h0] at h
    exact absurd (by rw [h]) h0
theorem comma_ok {v : Int} {y : Ps × Int} {s1 : Ps} (h : commaD v y = (s1, 0)) : y.2 = 0 ∧ s1.words = y.1.words ∧ s1.ctl = y.1.ctl ∧ s1.out = y.1.out ∧ s1.mem.length = y.1.mem.length := by
  unfold commaD at h
  by_cases h0 : y.2 = 0
  · rw [if_pos h0] at h
    by_cases h1 : thr y.2 (commaE y.1) = 0
    · rw [if_pos h1] at h
      injection h with h2 _
      have hc : commaE y.1 = 0 := by rw [h0] at h1; exact h1
      refine ⟨h0, ?_⟩
      rw [← h2]
      have hce : cellE y.1.mem.length y.1.here = 0 := by
        unfold commaE at hc
        split at hc
        · exact absurd hc (by decide)
        · exact hc
      unfold commaS
      rw [if_pos hc]
      exact ⟨rfl, rfl, rfl, L03.setC_length hce⟩
    · rw [if_neg h1] at h
      injection h with _ h3
      exact absurd h3 h1
  · rw [if_neg h0] at h
    exact absurd (by rw [h]) h0
theorem take_ok {s s1 : Ps} (h : takeD (s, 0) = (s1, 0)) : s1.words = s.words ∧ s1.ctl = s.ctl ∧ s1.comp = s.comp ∧ s1.pos = s.pos ∧ s1.here = s.here ∧ s1.out = s.out ∧ s1.mem = s.mem := by
  unfold takeD at h
  rw [if_pos rfl] at h
  split at h
  · injection h with h1 _
    rw [← h1]
    exact ⟨rfl, rfl, rfl, rfl, rfl, rfl, rfl⟩
  · injection h with _ h2
    exact absurd h2 (by decide)
theorem create_zero {x : Sx} {hid : Bool} {code : List Int} {s s1 : Ps} {e : Int} (h : createD x hid code (s, e) = (s1, 0)) : e = 0 := by
  by_cases h0 : e = 0
  · exact h0
  · have := createD_no (x := x) (hid := hid) (code := code) (s := s) h0
    rw [h] at this
    exact this.symm
/-- What a maker leaves, where nothing is thrown. -/
def Made (x : Sx) (s s1 : Ps) (hid : Bool) : Prop := s1.words = s.words ++ [madeW x s hid] ∧ s1.ctl = s.ctl ∧ s1.out = s.out ∧ s1.mem.length = s.mem.length
theorem made_110 {x : Sx} {s s1 : Ps} {b : Bool} (h : doD x s 110 = (s1, 0, b)) : Made x s s1 true ∧ s1.comp = true := by
  have h : resF (colonD x (s, 0)) = (s1, 0, b) := h
  have h4 := (resF_cases h).2.2 rfl
  unfold colonD compD at h4
  injection h4 with h5 h6
  obtain ⟨a, c, hab⟩ : ∃ a c, createD x true [] (s, 0) = (a, c) := ⟨_, _, rfl⟩
  rw [hab] at h5 h6
  simp only at h5 h6
  subst h6
  obtain ⟨r1, r2, r3, r4, r5⟩ := create_ok hab
  rw [← h5]
  exact ⟨⟨r1, r2, r4, r5⟩, rfl⟩
theorem made_113 {x : Sx} {s s1 : Ps} {b : Bool} (h : doD x s 113 = (s1, 0, b)) : Made x s s1 false := by
  have h : resF (constD x (s, 0)) = (s1, 0, b) := h
  have h4 := (resF_cases h).2.2 rfl
  unfold constD at h4
  obtain ⟨a, c, hab⟩ : ∃ a c, takeD (s, 0) = (a, c) := ⟨_, _, rfl⟩
  rw [hab] at h4
  obtain rfl := create_zero h4
  obtain ⟨r1, r2, r3, r4, r5⟩ := create_ok h4
  obtain ⟨t1, t2, t3, t4, t5, t6, t7⟩ := take_ok hab
  refine ⟨?_, r2.trans t2, r4.trans t6, by rw [r5, t7]⟩
  rw [r1, t1]
  unfold madeW tokS
  rw [t4, t5]
theorem made_114 {x : Sx} {s s1 : Ps} {b : Bool} (h : doD x s 114 = (s1, 0, b)) : Made x s s1 false := by
  have h : resF (varD x (s, 0)) = (s1, 0, b) := h
  have h4 := (resF_cases h).2.2 rfl
  unfold varD at h4
  obtain ⟨a, c, hab⟩ : ∃ a c, createD x false [8, 0] (s, 0) = (a, c) := ⟨_, _, rfl⟩
  rw [hab] at h4
  obtain ⟨rfl, c1, c2, c3, c4⟩ := comma_ok h4
  obtain ⟨r1, r2, r3, r4, r5⟩ := create_ok hab
  exact ⟨c1.trans r1, c2.trans r2, c3.trans r4, c4.trans r5⟩
theorem made_115 {x : Sx} {s s1 : Ps} {b : Bool} (h : doD x s 115 = (s1, 0, b)) : Made x s s1 false := by
  have h : resF (creaD x (s, 0)) = (s1, 0, b) := h
  obtain ⟨r1, r2, _, r4, r5⟩ := create_ok ((resF_cases h).2.2 rfl)
  exact ⟨r1, r2, r4, r5⟩
theorem made_117 {x : Sx} {s s1 : Ps} {b : Bool} (h : doD x s 117 = (s1, 0, b)) : Made x s s1 false := by
  have h : resF (markD x (s, 0)) = (s1, 0, b) := h
  obtain ⟨r1, r2, _, r4, r5⟩ := create_ok ((resF_cases h).2.2 rfl)
  exact ⟨r1, r2, r4, r5⟩
theorem getD_snoc (l : List Wd) (y : Wd) : (l ++ [y])[l.length]! = y := by simp
theorem found_new {s1 : Ps} {l : List Wd} {y : Wd} {m : ByteArray} (h : s1.words = l ++ [y]) (hh : y.hid = false) (hm : foldB y.nm = foldB m) : foundC s1 m = y.code ∧ foundI s1 m = true := by
  have hf : L07.findN s1.words (foldB m) = l.length := by
    rw [h, findN_snoc, if_pos (by unfold L07.isW; rw [hh, hm]; simp)]
  unfold foundC foundI
  rw [hf, if_pos (by omega), if_pos (by omega), h, Int.toNat_natCast, getD_snoc]
  exact ⟨rfl, rfl⟩
theorem found_hid {s s1 : Ps} {y : Wd} {m : ByteArray} (h : s1.words = s.words ++ [y]) (hh : y.hid = true) : foundC s1 m = foundC s m ∧ foundI s1 m = foundI s m := by
  have hf : L07.findN s1.words (foldB m) = L07.findN s.words (foldB m) := by
    rw [h, findN_snoc, if_neg (by unfold L07.isW; rw [hh]; simp)]
  unfold foundC foundI
  rw [hf]
  refine ⟨?_, rfl⟩
  by_cases h0 : 0 ≤ L07.findN s.words (foldB m)
  · rw [if_pos h0, if_pos h0, h]
    have := findN_lt s.words (foldB m)
    have hlt : (L07.findN s.words (foldB m)).toNat < s.words.length := by omega
    rw [List.getElem!_eq_getElem?_getD, List.getElem!_eq_getElem?_getD, List.getElem?_append_left hlt]
  · rw [if_neg h0, if_neg h0]
theorem comma_err (s : Ps) : commaE s ≠ -22 := by
  unfold commaE cellE
  split
  · decide
  · split
    · decide
    · split <;> decide
/-- What ; leaves of a state whose last word is hidden. -/
theorem end_made {x : Sx} {t u : Ps} {f : Int} {b : Bool} {l : List Wd} {y : Wd} (hw : t.words = l ++ [y]) (hh : y.hid = true) (h : doD x t 111 = (u, f, b)) :
    b = true ∧ (f = 0 → u.words = l ++ [hidF y] ∧ u.comp = false) ∧ (f = -22 → 0 < t.ctl.length) := by
  have h : resF (endD (t, 0)) = (u, f, b) := h
  obtain ⟨h1, _, h3⟩ := resF_cases h
  have hlast : (t.words[t.words.length - 1]!).hid = true := by
    rw [hw, List.length_append, List.length_singleton, Nat.add_sub_cancel, getD_snoc]
    exact hh
  have hne : ¬ t.words.length = 0 := by rw [hw, List.length_append, List.length_singleton]; omega
  refine ⟨h1, fun h0 => ?_, fun h0 => ?_⟩
  · have h4 := h3 h0
    unfold endD at h4
    obtain ⟨a, c, hab⟩ : ∃ a c, emitD (endY (t, 0)) [1] = (a, c) := ⟨_, _, rfl⟩
    rw [hab] at h4
    injection h4 with h5 h6
    have hc : c = 0 := by
      by_cases hc : c = 0
      · exact hc
      · rw [lastD_no hc] at h6
        exact absurd h6 hc
    subst hc
    obtain ⟨e1, e2, e3⟩ := emitD_ok hab
    have hy : endY (t, 0) = (t, 0) := by
      unfold endY at e1 ⊢
      split
      · rename_i hb
        rw [if_pos hb] at e1
        have e1 : thr 0 (-22) = 0 := e1
        exact absurd e1 (by decide)
      · rfl
    rw [hy] at e2 e3
    have hr := emit_rest _ _ e2
    have hwa : a.words = l ++ [y] := by rw [e3]; exact hr.1.trans hw
    have hl : lastD hidF (a, 0) = ({ a with words := l ++ [hidF y] }, 0) := by
      unfold lastD
      rw [if_pos rfl]
      simp only
      rw [hwa, turnL_snoc]
    rw [hl] at h5
    rw [← h5]
    exact ⟨rfl, rfl⟩
  · by_cases hctl : 0 < t.ctl.length
    · exact hctl
    · exfalso
      have hb : badE t = false := by
        unfold badE
        rw [hlast, decide_eq_false hctl, decide_eq_false hne]
        rfl
      have hy : endY (t, 0) = (t, 0) := by unfold endY; rw [if_neg (by rw [hb]; decide)]
      have he : (endD (t, 0)).2 = emitE t [1] := by
        unfold endD
        rw [hy]
        unfold emitD
        rw [if_pos rfl]
        simp only
        by_cases h1 : emitE t [1] = 0
        · rw [if_pos h1, h1]
          unfold lastD
          rw [if_pos rfl]
        · rw [if_neg h1, lastD_no h1]
      have hf : f = emitE t [1] := by
        unfold resF at h
        rw [he] at h
        by_cases h1 : emitE t [1] = 0
        · rw [if_pos h1] at h
          injection h with _ h
          injection h with h _
          rw [h1, h]
        · rw [if_neg h1] at h
          injection h with _ h
          injection h with h _
          exact h.symm
      have : emitE t [1] ≠ -22 := by
        unfold emitE
        by_cases hc : commaE t = 0
        · rw [if_pos hc]
          show (0 : Int) ≠ -22
          decide
        · rw [if_neg hc]
          exact comma_err t
      exact this (hf.symm.trans h0)
end Go.Proofs.YtappfhjknihboaaGreatDoor
