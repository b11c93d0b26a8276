
/- flow's words, one behind the other: what is opened and closed; what a word that wants another pair says. No program in sight. -/
import Derived.Test.YtfkkmlgblhnkaaaDoorPlainR11
import Derived.Test.YtfkkmlgblhnkaaaDoorPlainD11
namespace Go.Proofs.YtfkkmlgblhnkaaaDoor
open Go.RowKit

/-! ### Where a cell can be laid -/
theorem cellE_at8 {n k : Nat} (h : 8 * k + 8 ≤ n) : cellE n (8 * (k : Int)) = 0 := by
  unfold cellE
  rw [if_neg (by omega), if_pos (by omega)]
theorem commaE_at {s : Ps} {k : Nat} (hh : s.here = 8 * (k : Int)) (h : 8 * k + 8 ≤ s.mem.length) : commaE s = 0 := by
  unfold commaE
  rw [hh, if_neg (by omega), cellE_at8 h]
/-- So many cells laid, each with its spot. -/
structure Good (s : Ps) (n : Nat) : Prop where
  len : s.mem.length = 400
  here : s.here = 8 * (n : Int)
  spots : s.spots.length = n
  low : ∀ x ∈ s.spots, x.1 < s.here
theorem Good.lay {s : Ps} {n : Nat} (h : Good s n) (hn : n < 50) (v : Int) : commaE s = 0 ∧ Good (layS s v) (n + 1) ∧ (layS s v).ctl = s.ctl := by
  have hc : commaE s = 0 := commaE_at h.here (by rw [h.len]; omega)
  have hm := layS_mem (v := v) hc
  have hr := layS_rest (v := v) hc
  have hf : (s.spots.filter fun x => decide (x.1 < s.here)) = s.spots := List.filter_eq_self.2 (fun x hx => by simpa using h.low x hx)
  refine ⟨hc, ⟨by rw [hm, h.len], ?_, ?_, ?_⟩, ?_⟩
  · rw [hr]
    show s.here + 8 = _
    rw [h.here]
    omega
  · rw [hr]
    show ((s.spots.filter fun x => decide (x.1 < s.here)) ++ [(s.here, s.tok)]).length = _
    rw [hf, List.length_append, h.spots]
    rfl
  · rw [hr]
    intro x hx
    rw [hf] at hx
    show x.1 < s.here + 8
    rcases List.mem_append.1 hx with hx | hx
    · have := h.low x hx
      omega
    · rw [List.mem_singleton.1 hx]
      show s.here < s.here + 8
      omega
  · rw [hr]
theorem Good.two {s : Ps} {n : Nat} (h : Good s n) (hn : n < 49) (a b : Int) : emitE s [a, b] = 0 ∧ Good (emitS s [a, b]) (n + 2) ∧ (emitS s [a, b]).ctl = s.ctl := by
  obtain ⟨c1, g1, t1⟩ := h.lay (by omega) a
  obtain ⟨c2, g2, t2⟩ := g1.lay (by omega) b
  have e1 : emitS s [a, b] = layS (layS s a) b := by
    show (if commaE s = 0 then (if commaE (layS s a) = 0 then layS (layS s a) b else zeroP) else zeroP) = _
    rw [if_pos c1, if_pos c2]
  have e2 : emitE s [a, b] = 0 := by
    show (if commaE s = 0 then (if commaE (layS s a) = 0 then 0 else commaE (layS s a)) else commaE s) = _
    rw [if_pos c1, if_pos c2]
  rw [e1]
  exact ⟨e2, g2, t2.trans t1⟩
theorem Good.settle {s : Ps} {n m : Nat} (h : Good s n) (hm : m < 50) (v : Int) : patchE s (8 * (m : Int)) = 0 ∧ Good (patchS s (8 * (m : Int)) v) n ∧ (patchS s (8 * (m : Int)) v).ctl = s.ctl := by
  have hc : patchE s (8 * (m : Int)) = 0 := cellE_at8 (by rw [h.len]; omega)
  rw [patchS_ok hc]
  exact ⟨hc, ⟨by rw [← h.len]; exact setC_len hc, h.here, h.spots, h.low⟩, rfl⟩
theorem Good.ctl {s : Ps} {n : Nat} (h : Good s n) (c : List Int) : Good { s with ctl := c } n := ⟨h.len, h.here, h.spots, h.low⟩
theorem getD_app {c t : List Int} {i j : Nat} (h : j = c.length + i) : (c ++ t).getD j 0 = t.getD i 0 := by
  subst h
  simp [List.getD_eq_getElem?_getD, List.getElem?_append_right]

/-! ### A word -/
theorem ref_all {s : Ps} {n : Nat} (h : Good s n) (hn : n < 49) (K : List Int) (hK : hasR s.ctl K = true) (c : Nat) (hc : s.ctl.length - 2 * K.length + c ≤ 128 ∨ c = 0) (code : Option (Int × Int)) (st : Option Nat) (hst : ∀ m, st = some m → m < 50) (opn : Int → Int → List Int)
    (code' : Option (List Int)) (st' : Option Int) (hcode : code' = code.map fun p => [p.1, p.2]) (hst' : st' = st.map fun m => 8 * (m : Int)) :
    ∃ s', refF s K code' st' c opn = (s', 0, true) ∧ Good s' (n + (if code.isSome then 2 else 0)) ∧ s'.ctl = s.ctl.take (s.ctl.length - 2 * K.length) ++ opn (wrap64 (8 * ((n + (if code.isSome then 2 else 0) : Nat) : Int) - 8)) (8 * ((n + (if code.isSome then 2 else 0) : Nat) : Int)) := by
  subst hcode hst'
  obtain ⟨t, h3, g1, t1⟩ : ∃ t, emitO s (code.map fun p => [p.1, p.2]) = (t, 0) ∧ Good t (n + (if code.isSome then 2 else 0)) ∧ t.ctl = s.ctl := by
    cases code with
    | none => exact ⟨s, rfl, h, rfl⟩
    | some p =>
      obtain ⟨e1, g1, t1⟩ := h.two hn p.1 p.2
      exact ⟨_, by show (emitS s [p.1, p.2], emitE s [p.1, p.2]) = _; rw [e1], g1, t1⟩
  obtain ⟨t2, h4, g2⟩ : ∃ t2, patchO t (st.map fun m => 8 * (m : Int)) = (t2, 0) ∧ Good t2 (n + (if code.isSome then 2 else 0)) := by
    cases st with
    | none => exact ⟨t, rfl, g1⟩
    | some m =>
      obtain ⟨e2, g2, _⟩ := g1.settle (hst m rfl) t.here
      exact ⟨_, by show (patchS t (8 * (m : Int)) t.here, patchE t (8 * (m : Int))) = _; rw [e2], g2⟩
  rw [refF_ok hK (by omega) h3 h4]
  refine ⟨_, rfl, g2.ctl _, ?_⟩
  show s.ctl.take _ ++ opn (wrap64 (t2.here - 8)) t2.here = _
  rw [g2.here]

/-! ### Words, one behind the other -/
def runF : Ps → List Int → Ps × Int
  | s, [] => (s, 0)
  | s, op :: r => if (doF s op).2.1 ≠ 0 ∨ (doF s op).2.2 = false then (s, (doF s op).2.1) else runF (doF s op).1 r
theorem runF_cons {s t : Ps} {op : Int} {r : List Int} (h : doF s op = (t, 0, true)) : runF s (op :: r) = runF t r := by
  rw [runF, h, if_neg (by simp)]

def opK (k : Int) : List Int := if k = 0 then [98] else if k = 1 then [98, 99] else if k = 2 then [101] else if k = 3 then [101, 104] else [106]
def clK (k : Int) : Int := if k = 0 then 100 else if k = 1 then 100 else if k = 2 then 103 else if k = 3 then 105 else 107
def ceK (k : Int) : Nat := if k = 0 then 2 else if k = 1 then 4 else if k = 2 then 2 else if k = 3 then 4 else 4
def cO (k : Int) : Nat := if k = 0 then 2 else if k = 1 then 4 else if k = 2 then 0 else if k = 3 then 2 else 2
def cC (k : Int) : Nat := if k = 0 then 0 else if k = 1 then 0 else if k = 2 then 2 else if k = 3 then 2 else 2
/-- What is left open. -/
def Top (k : Int) (t : List Int) : Prop :=
  if k = 0 ∨ k = 1 then ∃ m : Nat, m < 50 ∧ t = [1, 8 * (m : Int)] else if k = 2 then ∃ a, t = [2, a] else if k = 3 then ∃ (m : Nat) (a : Int), m < 50 ∧ t = [1, 8 * (m : Int), 2, a] else ∃ m : Nat, m < 50 ∧ t = [3, 8 * (m : Int)]
theorem wrap_at {n : Nat} (hn : n < 100) : wrap64 (8 * ((n : Int) + 2) - 8) = 8 * ((n : Int) + 1) := by
  rw [show 8 * ((n : Int) + 2) - 8 = 8 * ((n : Int) + 1) by omega]
  unfold wrap64
  omega
theorem do_if {s : Ps} {n : Nat} (h : Good s n) (hn : n < 49) (hc : s.ctl.length + 2 ≤ 128) : ∃ s', doF s 98 = (s', 0, true) ∧ Good s' (n + 2) ∧ s'.ctl = s.ctl ++ [1, 8 * ((n + 1 : Nat) : Int)] := by
  have e : doF s 98 = refF s [] (some [4, 0]) none 2 (fun c _ => [1, c]) := forward_ref s 4 1
  rw [e]
  obtain ⟨s', h1, h2, h3⟩ := ref_all h hn [] (hasR_nil _) 2 (.inl (by simpa using hc)) (some (4, 0)) none (by simp) (fun c _ => [1, c]) _ _ rfl rfl
  exact ⟨s', h1, h2, by rw [h3]; simp [wrap_at (show n < 100 by omega)]⟩
theorem do_do {s : Ps} {n : Nat} (h : Good s n) (hn : n < 49) (hc : s.ctl.length + 2 ≤ 128) : ∃ s', doF s 106 = (s', 0, true) ∧ Good s' (n + 2) ∧ s'.ctl = s.ctl ++ [3, 8 * ((n + 1 : Nat) : Int)] := by
  have e : doF s 106 = refF s [] (some [5, 0]) none 2 (fun c _ => [3, c]) := forward_ref s 5 3
  rw [e]
  obtain ⟨s', h1, h2, h3⟩ := ref_all h hn [] (hasR_nil _) 2 (.inl (by simpa using hc)) (some (5, 0)) none (by simp) (fun c _ => [3, c]) _ _ rfl rfl
  exact ⟨s', h1, h2, by rw [h3]; simp [wrap_at (show n < 100 by omega)]⟩
theorem do_begin {s : Ps} {n : Nat} (h : Good s n) (hn : n < 49) (hc : s.ctl.length + 2 ≤ 128) : ∃ s', doF s 101 = (s', 0, true) ∧ Good s' n ∧ s'.ctl = s.ctl ++ [2, 8 * (n : Int)] := by
  have e : doF s 101 = refF s [] none none 2 (fun _ h => [2, h]) := begin_ref s
  rw [e]
  obtain ⟨s', h1, h2, h3⟩ := ref_all h hn [] (hasR_nil _) 2 (.inl (by simpa using hc)) none none (by simp) (fun _ h => [2, h]) _ _ rfl rfl
  exact ⟨s', h1, h2, by rw [h3]; simp⟩
theorem has_top1 {c : List Int} {k a : Int} : hasR (c ++ [k, a]) [k] = true := by
  rw [hasR_one]
  exact decide_eq_true ⟨by simp, by rw [getD_app (i := 0) (by simp)]; rfl⟩
theorem take_top1 (c : List Int) (k a : Int) : (c ++ [k, a]).take ((c ++ [k, a]).length - 2 * 1) = c := by
  rw [show (c ++ [k, a]).length - 2 * 1 = c.length by simp]
  simp
theorem topA_top1 {s : Ps} {c : List Int} {k a : Int} (h : s.ctl = c ++ [k, a]) : topA s = a := by
  unfold topA
  rw [h, getD_app (i := 1) (by simp)]
  rfl
theorem do_else {s : Ps} {n m : Nat} {c : List Int} (h : Good s n) (hn : n < 49) (hc : c.length + 2 ≤ 128) (hm : m < 50) (ht : s.ctl = c ++ [1, 8 * (m : Int)]) : ∃ s', doF s 99 = (s', 0, true) ∧ Good s' (n + 2) ∧ s'.ctl = c ++ [1, 8 * ((n + 1 : Nat) : Int)] := by
  have e : doF s 99 = refF s [1] (some [3, 0]) (some (topA s)) 2 (fun c _ => [1, c]) := else_ref s
  rw [e, topA_top1 ht]
  obtain ⟨s', h1, h2, h3⟩ := ref_all h hn [1] (by rw [ht]; exact has_top1) 2 (.inl (by rw [ht]; simp; omega)) (some (3, 0)) (some m) (fun _ e => by cases e; exact hm) (fun c _ => [1, c]) _ _ rfl rfl
  refine ⟨s', h1, h2, ?_⟩
  rw [h3, ht, show ([1] : List Int).length = 1 from rfl, take_top1]
  simp [wrap_at (show n < 100 by omega)]
theorem do_then {s : Ps} {n m : Nat} {c : List Int} (h : Good s n) (hn : n < 49) (hm : m < 50) (ht : s.ctl = c ++ [1, 8 * (m : Int)]) : ∃ s', doF s 100 = (s', 0, true) ∧ Good s' n ∧ s'.ctl = c := by
  have e : doF s 100 = refF s [1] none (some (topA s)) 0 opn0 := then_ref s
  rw [e, topA_top1 ht]
  obtain ⟨s', h1, h2, h3⟩ := ref_all h hn [1] (by rw [ht]; exact has_top1) 0 (.inr rfl) none (some m) (fun _ e => by cases e; exact hm) opn0 _ _ rfl rfl
  refine ⟨s', h1, h2, ?_⟩
  rw [h3, ht, show ([1] : List Int).length = 1 from rfl, take_top1]
  simp [opn0]
theorem do_back {s : Ps} {n : Nat} {c : List Int} {a : Int} (op k : Int) (ho : doF s op = resF (backW (s, 0) k)) (h : Good s n) (hn : n < 49) (ht : s.ctl = c ++ [2, a]) : ∃ s', doF s op = (s', 0, true) ∧ Good s' (n + 2) ∧ s'.ctl = c := by
  rw [ho, back_ref]
  obtain ⟨s', h1, h2, h3⟩ := ref_all h hn [2] (by rw [ht]; exact has_top1) 0 (.inr rfl) (some (k, topA s)) none (by simp) opn0 _ _ rfl rfl
  refine ⟨s', h1, h2, ?_⟩
  rw [h3, ht, show ([2] : List Int).length = 1 from rfl, take_top1]
  simp [opn0]
theorem do_while {s : Ps} {n : Nat} {c : List Int} {a : Int} (h : Good s n) (hn : n < 49) (hc : c.length + 4 ≤ 128) (ht : s.ctl = c ++ [2, a]) : ∃ s', doF s 104 = (s', 0, true) ∧ Good s' (n + 2) ∧ s'.ctl = c ++ [1, 8 * ((n + 1 : Nat) : Int), 2, a] := by
  have e : doF s 104 = refF s [2] (some [4, 0]) none 4 (fun c _ => [1, c, 2, topA s]) := while_ref s
  rw [e, topA_top1 ht]
  obtain ⟨s', h1, h2, h3⟩ := ref_all h hn [2] (by rw [ht]; exact has_top1) 4 (.inl (by rw [ht]; simp; omega)) (some (4, 0)) none (by simp) (fun c _ => [1, c, 2, a]) _ _ rfl rfl
  refine ⟨s', h1, h2, ?_⟩
  rw [h3, ht, show ([2] : List Int).length = 1 from rfl, take_top1]
  simp [wrap_at (show n < 100 by omega)]
theorem do_loop {s : Ps} {n m : Nat} {c : List Int} (h : Good s n) (hn : n < 49) (hm : m < 50) (ht : s.ctl = c ++ [3, 8 * (m : Int)]) : ∃ s', doF s 107 = (s', 0, true) ∧ Good s' (n + 2) ∧ s'.ctl = c := by
  have e : doF s 107 = refF s [3] (some [6, wrap64 (topA s + 8)]) (some (topA s)) 0 opn0 := shut_ref s 6
  rw [e, topA_top1 ht]
  obtain ⟨s', h1, h2, h3⟩ := ref_all h hn [3] (by rw [ht]; exact has_top1) 0 (.inr rfl) (some (6, wrap64 (8 * (m : Int) + 8))) (some m) (fun _ e => by cases e; exact hm) opn0 _ _ rfl rfl
  refine ⟨s', h1, h2, ?_⟩
  rw [h3, ht, show ([3] : List Int).length = 1 from rfl, take_top1]
  simp [opn0]
theorem do_repeat {s : Ps} {n m : Nat} {c : List Int} {a : Int} (h : Good s n) (hn : n < 49) (hm : m < 50) (ht : s.ctl = c ++ [1, 8 * (m : Int), 2, a]) : ∃ s', doF s 105 = (s', 0, true) ∧ Good s' (n + 2) ∧ s'.ctl = c := by
  have e : doF s 105 = refF s [2, 1] (some [3, topA s]) (some (topB s)) 0 opn0 := repeat_ref s
  have eb : topB s = 8 * (m : Int) := by
    unfold topB
    rw [ht, getD_app (i := 1) (by simp)]
    rfl
  rw [e, eb]
  obtain ⟨s', h1, h2, h3⟩ := ref_all h hn [2, 1] (by rw [ht, hasR_two]; exact decide_eq_true ⟨by simp, by rw [getD_app (i := 2) (by simp)]; rfl, by rw [getD_app (i := 0) (by simp)]; rfl⟩) 0 (.inr rfl) (some (3, topA s)) (some m) (fun _ e => by cases e; exact hm) opn0 _ _ rfl rfl
  refine ⟨s', h1, h2, ?_⟩
  rw [h3, ht, show (c ++ [1, 8 * (m : Int), 2, a]).length - 2 * ([2, 1] : List Int).length = c.length by simp]
  simp [opn0]
theorem run_open (k : Int) {s : Ps} {n : Nat} (h : Good s n) (hn : n < 45) (hc : s.ctl.length + 4 ≤ 128) (r : List Int) : ∃ s' t, runF s (opK k ++ r) = runF s' r ∧ Good s' (n + cO k) ∧ s'.ctl = s.ctl ++ t ∧ t.length ≤ 4 ∧ Top k t := by
  unfold opK cO Top
  by_cases k0 : k = 0
  · obtain ⟨s1, h1, g1, t1⟩ := do_if h (by omega) (by omega)
    exact ⟨s1, _, by rw [if_pos k0]; exact runF_cons h1, by rw [if_pos k0]; exact g1, t1, by simp, by rw [if_pos (.inl k0)]; exact ⟨n + 1, by omega, rfl⟩⟩
  by_cases k1 : k = 1
  · obtain ⟨s1, h1, g1, t1⟩ := do_if h (by omega) (by omega)
    obtain ⟨s2, h2, g2, t2⟩ := do_else g1 (by omega) (by omega) (by omega) t1
    exact ⟨s2, _, by rw [if_neg k0, if_pos k1]; exact (runF_cons h1).trans (runF_cons h2), by rw [if_neg k0, if_pos k1]; exact g2, t2, by simp, by rw [if_pos (.inr k1)]; exact ⟨n + 2 + 1, by omega, rfl⟩⟩
  by_cases k2 : k = 2
  · obtain ⟨s1, h1, g1, t1⟩ := do_begin h (by omega) (by omega)
    exact ⟨s1, _, by rw [if_neg k0, if_neg k1, if_pos k2]; exact runF_cons h1, by rw [if_neg k0, if_neg k1, if_pos k2]; exact g1, t1, by simp, by rw [if_neg (by omega), if_pos k2]; exact ⟨_, rfl⟩⟩
  by_cases k3 : k = 3
  · obtain ⟨s1, h1, g1, t1⟩ := do_begin h (by omega) (by omega)
    obtain ⟨s2, h2, g2, t2⟩ := do_while g1 (by omega) (by omega) t1
    exact ⟨s2, _, by rw [if_neg k0, if_neg k1, if_neg k2, if_pos k3]; exact (runF_cons h1).trans (runF_cons h2), by rw [if_neg k0, if_neg k1, if_neg k2, if_pos k3]; exact g2, t2, by simp, by rw [if_neg (by omega), if_neg k2, if_pos k3]; exact ⟨n + 1, _, by omega, rfl⟩⟩
  · obtain ⟨s1, h1, g1, t1⟩ := do_do h (by omega) (by omega)
    exact ⟨s1, _, by rw [if_neg k0, if_neg k1, if_neg k2, if_neg k3]; exact runF_cons h1, by rw [if_neg k0, if_neg k1, if_neg k2, if_neg k3]; exact g1, t1, by simp, by rw [if_neg (by omega), if_neg k2, if_neg k3]; exact ⟨n + 1, by omega, rfl⟩⟩
theorem run_close (k : Int) {s : Ps} {n : Nat} {c t : List Int} (h : Good s n) (hn : n < 45) (ht : s.ctl = c ++ t) (hT : Top k t) (r : List Int) : ∃ s', runF s (clK k :: r) = runF s' r ∧ Good s' (n + cC k) ∧ s'.ctl = c := by
  unfold clK cC
  unfold Top at hT
  by_cases k0 : k = 0
  · rw [if_pos (.inl k0)] at hT
    obtain ⟨m, hm, rfl⟩ := hT
    obtain ⟨s1, h1, g1, t1⟩ := do_then h (by omega) hm ht
    exact ⟨s1, by rw [if_pos k0]; exact runF_cons h1, by rw [if_pos k0]; exact g1, t1⟩
  by_cases k1 : k = 1
  · rw [if_pos (.inr k1)] at hT
    obtain ⟨m, hm, rfl⟩ := hT
    obtain ⟨s1, h1, g1, t1⟩ := do_then h (by omega) hm ht
    exact ⟨s1, by rw [if_neg k0, if_pos k1]; exact runF_cons h1, by rw [if_neg k0, if_pos k1]; exact g1, t1⟩
  rw [if_neg (by omega)] at hT
  by_cases k2 : k = 2
  · rw [if_pos k2] at hT
    obtain ⟨a, rfl⟩ := hT
    obtain ⟨s1, h1, g1, t1⟩ := do_back 103 4 rfl h (by omega) ht
    exact ⟨s1, by rw [if_neg k0, if_neg k1, if_pos k2]; exact runF_cons h1, by rw [if_neg k0, if_neg k1, if_pos k2]; exact g1, t1⟩
  rw [if_neg k2] at hT
  by_cases k3 : k = 3
  · rw [if_pos k3] at hT
    obtain ⟨m, a, hm, rfl⟩ := hT
    obtain ⟨s1, h1, g1, t1⟩ := do_repeat h (by omega) hm ht
    exact ⟨s1, by rw [if_neg k0, if_neg k1, if_neg k2, if_pos k3]; exact runF_cons h1, by rw [if_neg k0, if_neg k1, if_neg k2, if_pos k3]; exact g1, t1⟩
  rw [if_neg k3] at hT
  obtain ⟨m, hm, rfl⟩ := hT
  obtain ⟨s1, h1, g1, t1⟩ := do_loop h (by omega) hm ht
  exact ⟨s1, by rw [if_neg k0, if_neg k1, if_neg k2, if_neg k3]; exact runF_cons h1, by rw [if_neg k0, if_neg k1, if_neg k2, if_neg k3]; exact g1, t1⟩
def opens : List Int → List Int
  | [] => []
  | k :: r => opK k ++ opens r
def closes : List Int → List Int
  | [] => []
  | k :: r => closes r ++ [clK k]
def cells : List Int → Nat
  | [] => 0
  | k :: r => ceK k + cells r
theorem ce_sum (k : Int) : cO k + cC k = ceK k := by
  unfold cO cC ceK
  split
  · rfl
  split
  · rfl
  split
  · rfl
  split <;> rfl
theorem cO_le (k : Int) : cO k ≤ 4 := by
  unfold cO
  split
  · decide
  split
  · decide
  split
  · decide
  split <;> decide
theorem cells_le : ∀ l : List Int, cells l ≤ 4 * l.length
  | [] => Nat.zero_le _
  | k :: r => by
    have := cells_le r
    have h : ceK k ≤ 4 := by
      unfold ceK
      split
      · decide
      split
      · decide
      split
      · decide
      split <;> decide
    simp only [cells, List.length_cons]
    omega
/-- What is opened and closed leaves the control stack as it was. -/
theorem run_closes : ∀ (l : List Int) {s : Ps} {n : Nat} (r : List Int), Good s n → n + 4 * l.length ≤ 44 → s.ctl.length + 4 * l.length ≤ 128 → ∃ s', runF s (opens l ++ (closes l ++ r)) = runF s' r ∧ Good s' (n + cells l) ∧ s'.ctl = s.ctl
  | [], s, n, r, h, _, _ => ⟨s, rfl, h, rfl⟩
  | k :: l, s, n, r, h, hn, hc => by
    rw [List.length_cons] at hn hc
    obtain ⟨s1, t, h1, g1, t1, hl, hT⟩ := run_open k h (by omega) (by omega) (opens l ++ (closes l ++ ([clK k] ++ r)))
    have hco := cO_le k
    have hce := cells_le l
    obtain ⟨s2, h2, g2, t2⟩ := run_closes l (s := s1) ([clK k] ++ r) g1 (by omega) (by rw [t1, List.length_append]; omega)
    obtain ⟨s3, h3, g3, t3⟩ := run_close k g2 (by omega) (t2.trans t1) hT r
    refine ⟨s3, ?_, ?_, t3⟩
    · show runF s ((opK k ++ opens l) ++ ((closes l ++ [clK k]) ++ r)) = _
      rw [List.append_assoc, List.append_assoc]
      exact h1.trans (h2.trans h3)
    · rw [show n + cells (k :: l) = n + cO k + cells l + cC k by have := ce_sum k; simp only [cells]; omega]
      exact g3
end Go.Proofs.YtfkkmlgblhnkaaaDoor
