
/- nostosref11.Do in plain words, and that it says what flow.Do does. -/
import Derived.Test.YtfkkmlgblhnkaaaDoorRefH11
namespace Go.Proofs.YtfkkmlgblhnkaaaDoor
open Go.RowKit

def topA (s : Ps) : Int := s.ctl.getD (s.ctl.length - 1) 0
def topB (s : Ps) : Int := s.ctl.getD (s.ctl.length - 3) 0
def emitO (s : Ps) : Option (List Int) → Ps × Int
  | none => (s, 0)
  | some c => (emitS s c, emitE s c)
def patchO (t : Ps) : Option Int → Ps × Int
  | none => (t, 0)
  | some a => (patchS t a t.here, patchE t a)
/-- A word that takes these pairs, lays that, settles that, and opens so many cells. -/
def refF (s : Ps) (K : List Int) (code : Option (List Int)) (st : Option Int) (c : Nat) (opn : Int → Int → List Int) : Ps × Int × Bool :=
  if hasR s.ctl K = false then (zeroP, -22, true)
  else if 0 < c ∧ 128 < s.ctl.length - 2 * K.length + c then (zeroP, -3, true)
  else if (emitO s code).2 ≠ 0 then (zeroP, (emitO s code).2, true)
  else if (patchO (emitO s code).1 st).2 ≠ 0 then (zeroP, (patchO (emitO s code).1 st).2, true)
  else ({ (patchO (emitO s code).1 st).1 with ctl := s.ctl.take (s.ctl.length - 2 * K.length) ++ opn (wrap64 ((patchO (emitO s code).1 st).1.here - 8)) (patchO (emitO s code).1 st).1.here }, 0, true)

/-! ### The control stack is no part of what is emitted -/
theorem commaE_ctl (s : Ps) (c : List Int) : commaE { s with ctl := c } = commaE s := rfl
theorem layS_ctl {s : Ps} {v : Int} {c : List Int} (h : commaE s = 0) : layS { s with ctl := c } v = { layS s v with ctl := c } := by
  rw [layS_rest (s := { s with ctl := c }) (by rw [commaE_ctl]; exact h), layS_rest h]
theorem emitE_ctl : ∀ (l : List Int) (s : Ps) (c : List Int), emitE { s with ctl := c } l = emitE s l
  | [], _, _ => rfl
  | v :: r, s, c => by
    unfold emitE
    rw [commaE_ctl]
    split
    · rename_i h
      rw [layS_ctl h]
      exact emitE_ctl r _ _
    · rfl
theorem emitS_ctl : ∀ (l : List Int) (s : Ps) (c : List Int), emitE s l = 0 → emitS { s with ctl := c } l = { emitS s l with ctl := c }
  | [], _, _, _ => rfl
  | v :: r, s, c, h => by
    unfold emitE at h
    unfold emitS
    rw [commaE_ctl]
    split
    · rename_i h2
      rw [if_pos h2] at h
      rw [layS_ctl h2]
      exact emitS_ctl r _ _ h
    · rename_i h2
      rw [if_neg h2] at h
      exact absurd h h2
theorem emitS_no : ∀ (l : List Int) (s : Ps), emitE s l ≠ 0 → emitS s l = zeroP
  | [], _, h => absurd rfl h
  | v :: r, s, h => by
    unfold emitE at h
    unfold emitS
    split
    · rename_i h2
      rw [if_pos h2] at h
      exact emitS_no r _ h
    · rfl
theorem emitS_keep : ∀ (l : List Int) (s : Ps), emitE s l = 0 → (emitS s l).ctl = s.ctl
  | [], _, _ => rfl
  | v :: r, s, h => by
    unfold emitE at h
    unfold emitS
    split
    · rename_i h2
      rw [if_pos h2] at h
      rw [emitS_keep r _ h, layS_rest h2]
    · rename_i h2
      rw [if_neg h2] at h
      exact absurd h h2
theorem patchE_ctl (s : Ps) (c : List Int) (a : Int) : patchE { s with ctl := c } a = patchE s a := rfl
theorem patchS_ctl {s : Ps} {c : List Int} {a v : Int} (h : patchE s a = 0) : patchS { s with ctl := c } a v = { patchS s a v with ctl := c } := by
  rw [patchS_ok (s := { s with ctl := c }) h, patchS_ok h]
theorem ctl_same (s : Ps) : { s with ctl := s.ctl } = s := rfl

/-! ### Pops and pairs -/
theorem hasR_one {l : List Int} {k : Int} : hasR l [k] = decide (2 ≤ l.length ∧ l.getD (l.length - 2) 0 = k) := by
  unfold hasR
  rw [decide_eq_decide]
  constructor
  · intro h
    exact ⟨by simpa using h.1, by simpa using h.2 0 (by simp)⟩
  · intro h
    refine ⟨by simpa using h.1, fun j hj => ?_⟩
    obtain rfl : j = 0 := by simpa using hj
    simpa using h.2
theorem popW_one {s : Ps} {k : Int} (h : hasR s.ctl [k] = true) : popW (s, 0) k = ({ s with ctl := s.ctl.take (s.ctl.length - 2) }, 0) ∧ popV (s, 0) k = topA s := by
  rw [hasR_one] at h
  have h := of_decide_eq_true h
  unfold popW popV topA
  exact ⟨by rw [if_pos rfl, if_pos h], by rw [if_pos ⟨rfl, h⟩]⟩
theorem popW_no {s : Ps} {k : Int} (h : hasR s.ctl [k] = false) : popW (s, 0) k = (zeroP, -22) := by
  rw [hasR_one] at h
  have h := of_decide_eq_false h
  unfold popW
  rw [if_pos rfl, if_neg h]
theorem pop_err {s : Ps} {e k : Int} (h : e ≠ 0) : popW (s, e) k = (s, e) := by unfold popW; rw [if_neg h]
theorem lay_err {s : Ps} {e op v : Int} (h : e ≠ 0) : layW (s, e) op v = (s, e) := by unfold layW; rw [if_neg h]
theorem settle_err {s : Ps} {e a : Int} (h : e ≠ 0) : settleW (s, e) a = (s, e) := by unfold settleW; rw [if_neg h]
theorem push_err {s : Ps} {e k a : Int} (h : e ≠ 0) : pushW (s, e) k a = (s, e) := by unfold pushW; rw [if_neg h]
theorem room_err {s : Ps} {e : Int} {m : Nat} (h : e ≠ 0) : roomW (s, e) m = (s, e) := by unfold roomW; rw [if_neg (fun h2 => h h2.1)]
theorem lay_ok {s : Ps} {op v : Int} : layW (s, 0) op v = (emitS s [op, v], emitE s [op, v]) := by unfold layW; rw [if_pos rfl]
theorem settle_ok {s : Ps} {a : Int} : settleW (s, 0) a = (patchS s a s.here, patchE s a) := by unfold settleW; rw [if_pos rfl]
theorem push_ok {s : Ps} {k a : Int} (h : ¬ 128 < s.ctl.length + 2) : pushW (s, 0) k a = ({ s with ctl := s.ctl ++ [k, a] }, 0) := by unfold pushW; rw [if_pos rfl, if_neg h]
theorem push_over {s : Ps} {k a : Int} (h : 128 < s.ctl.length + 2) : pushW (s, 0) k a = (zeroP, -3) := by unfold pushW; rw [if_pos rfl, if_pos h]
theorem room_ok {s : Ps} {m : Nat} (h : ¬ 128 < s.ctl.length + 2 * m) : roomW (s, 0) m = (s, 0) := by unfold roomW; rw [if_neg (fun h2 => h h2.2)]
theorem room_over {s : Ps} {m : Nat} (h : 128 < s.ctl.length + 2 * m) : roomW (s, 0) m = (zeroP, -3) := by unfold roomW; rw [if_pos ⟨rfl, h⟩]
theorem res_err {s : Ps} {e : Int} (h : e ≠ 0) : resF (s, e) = (zeroP, e, true) := by unfold resF; rw [if_neg h]
theorem res_ok {s : Ps} : resF (s, 0) = (s, 0, true) := by unfold resF; rw [if_pos rfl]
theorem hasR_nil (l : List Int) : hasR l [] = true := by
  unfold hasR
  exact decide_eq_true ⟨by simp, fun j hj => by simp at hj⟩

/-! ### The four ways -/
section
variable {s : Ps} {K : List Int} {code : Option (List Int)} {st : Option Int} {c : Nat} {opn : Int → Int → List Int}
theorem refF_miss (h : hasR s.ctl K = false) : refF s K code st c opn = (zeroP, -22, true) := by unfold refF; rw [if_pos h]
theorem refF_over (h : hasR s.ctl K = true) (h2 : 0 < c ∧ 128 < s.ctl.length - 2 * K.length + c) : refF s K code st c opn = (zeroP, -3, true) := by
  unfold refF
  rw [if_neg (by rw [h]; decide), if_pos h2]
theorem refF_emit {t : Ps} {e : Int} (h : hasR s.ctl K = true) (h2 : ¬ (0 < c ∧ 128 < s.ctl.length - 2 * K.length + c)) (h3 : emitO s code = (t, e)) (he : e ≠ 0) : refF s K code st c opn = (zeroP, e, true) := by
  unfold refF
  rw [if_neg (by rw [h]; decide), if_neg h2, h3, if_pos he]
theorem refF_patch {t t2 : Ps} {e : Int} (h : hasR s.ctl K = true) (h2 : ¬ (0 < c ∧ 128 < s.ctl.length - 2 * K.length + c)) (h3 : emitO s code = (t, 0)) (h4 : patchO t st = (t2, e)) (he : e ≠ 0) : refF s K code st c opn = (zeroP, e, true) := by
  unfold refF
  rw [if_neg (by rw [h]; decide), if_neg h2, h3, if_neg (fun h => h rfl)]
  dsimp only
  rw [h4, if_pos he]
theorem refF_ok {t t2 : Ps} (h : hasR s.ctl K = true) (h2 : ¬ (0 < c ∧ 128 < s.ctl.length - 2 * K.length + c)) (h3 : emitO s code = (t, 0)) (h4 : patchO t st = (t2, 0)) : refF s K code st c opn = ({ t2 with ctl := s.ctl.take (s.ctl.length - 2 * K.length) ++ opn (wrap64 (t2.here - 8)) t2.here }, 0, true) := by
  unfold refF
  rw [if_neg (by rw [h]; decide), if_neg h2, h3, if_neg (fun h => h rfl)]
  dsimp only
  rw [h4, if_neg (fun h => h rfl)]
end
theorem emitO_some {s : Ps} {l : List Int} {e : Int} (h : emitE s l = e) : emitO s (some l) = (emitS s l, e) := by rw [← h]; rfl
theorem patchO_some {s : Ps} {a : Int} {e : Int} (h : patchE s a = e) : patchO s (some a) = (patchS s a s.here, e) := by rw [← h]; rfl

/-! ### Word for word -/
theorem no0 {a b : Nat} : ¬ (0 < 0 ∧ 128 < a - b + 0) := fun h => absurd h.1 (by decide)
def opn0 : Int → Int → List Int := fun _ _ => []
theorem begin_ref (s : Ps) : resF (beginW (s, 0)) = refF s [] none none 2 (fun _ h => [2, h]) := by
  unfold beginW
  by_cases h : 128 < s.ctl.length + 2
  · rw [push_over h, res_err (by decide), refF_over (hasR_nil _) ⟨by decide, by simpa using h⟩]
  · rw [push_ok h, res_ok, refF_ok (hasR_nil _) (fun h2 => h (by simpa using h2.2)) rfl rfl]
    simp
theorem forward_ref (s : Ps) (op kind : Int) : resF (forwardW (s, 0) op kind) = refF s [] (some [op, 0]) none 2 (fun c _ => [kind, c]) := by
  unfold forwardW
  by_cases h : 128 < s.ctl.length + 2
  · rw [room_over (by omega), lay_err (by decide), push_err (by decide), res_err (by decide), refF_over (hasR_nil _) ⟨by decide, by simpa using h⟩]
  · rw [room_ok (by omega), lay_ok]
    by_cases he : emitE s [op, 0] = 0
    · rw [he, push_ok (by rw [emitS_keep _ _ he]; exact h), res_ok, refF_ok (hasR_nil _) (fun h2 => h (by simpa using h2.2)) (emitO_some he) rfl]
      simp [freshW, emitS_keep _ _ he]
    · rw [push_err he, res_err he, refF_emit (hasR_nil _) (fun h2 => h (by simpa using h2.2)) (emitO_some rfl) he]
theorem then_ref (s : Ps) : resF (thenW (s, 0)) = refF s [1] none (some (topA s)) 0 opn0 := by
  unfold thenW
  cases hb : hasR s.ctl [1] with
  | false => rw [popW_no hb, settle_err (by decide), res_err (by decide), refF_miss hb]
  | true =>
    obtain ⟨h1, h2⟩ := popW_one hb
    rw [h1, h2, settle_ok, patchE_ctl]
    by_cases he : patchE s (topA s) = 0
    · rw [he, patchS_ctl he, res_ok, refF_ok hb no0 rfl (patchO_some he)]
      simp [opn0]
    · rw [res_err he, refF_patch hb no0 rfl (patchO_some rfl) he]
theorem back_ref (s : Ps) (op : Int) : resF (backW (s, 0) op) = refF s [2] (some [op, topA s]) none 0 opn0 := by
  unfold backW
  cases hb : hasR s.ctl [2] with
  | false => rw [popW_no hb, lay_err (by decide), res_err (by decide), refF_miss hb]
  | true =>
    obtain ⟨h1, h2⟩ := popW_one hb
    rw [h1, h2, lay_ok, emitE_ctl]
    by_cases he : emitE s [op, topA s] = 0
    · rw [he, emitS_ctl _ _ _ he, res_ok, refF_ok hb no0 (emitO_some he) rfl]
      simp [opn0]
    · rw [res_err he, refF_emit hb no0 (emitO_some rfl) he]
theorem shut_ref (s : Ps) (op : Int) : resF (shutW (s, 0) op) = refF s [3] (some [op, wrap64 (topA s + 8)]) (some (topA s)) 0 opn0 := by
  unfold shutW
  cases hb : hasR s.ctl [3] with
  | false => rw [popW_no hb, lay_err (by decide), settle_err (by decide), res_err (by decide), refF_miss hb]
  | true =>
    obtain ⟨h1, h2⟩ := popW_one hb
    rw [h1, h2, lay_ok, emitE_ctl]
    by_cases he : emitE s [op, wrap64 (topA s + 8)] = 0
    · rw [he, emitS_ctl _ _ _ he, settle_ok, patchE_ctl]
      by_cases hp : patchE (emitS s [op, wrap64 (topA s + 8)]) (topA s) = 0
      · rw [hp]
        rw [show (({ emitS s [op, wrap64 (topA s + 8)] with ctl := s.ctl.take (s.ctl.length - 2) } : Ps).here) = (emitS s [op, wrap64 (topA s + 8)]).here from rfl, patchS_ctl hp, res_ok, refF_ok hb no0 (emitO_some he) (patchO_some hp)]
        simp [opn0]
      · rw [res_err hp, refF_patch hb no0 (emitO_some he) (patchO_some rfl) hp]
    · rw [settle_err he, res_err he, refF_emit hb no0 (emitO_some rfl) he]
theorem else_ref (s : Ps) : resF (elseW (s, 0)) = refF s [1] (some [3, 0]) (some (topA s)) 2 (fun c _ => [1, c]) := by
  unfold elseW
  cases hb : hasR s.ctl [1] with
  | false => rw [popW_no hb, room_err (by decide), lay_err (by decide), settle_err (by decide), push_err (by decide), res_err (by decide), refF_miss hb]
  | true =>
    obtain ⟨h1, h2⟩ := popW_one hb
    have hlen : (s.ctl.take (s.ctl.length - 2)).length = s.ctl.length - 2 := by rw [List.length_take]; omega
    rw [h1, h2]
    by_cases h : 128 < s.ctl.length - 2 + 2
    · rw [room_over (by show 128 < (s.ctl.take _).length + _; rw [hlen]; omega), lay_err (by decide), settle_err (by decide), push_err (by decide), res_err (by decide), refF_over hb ⟨by decide, by simpa using h⟩]
    · have h0 : ¬ (0 < 2 ∧ 128 < s.ctl.length - 2 * [(1 : Int)].length + 2) := fun h2 => h (by simpa using h2.2)
      rw [room_ok (by show ¬ 128 < (s.ctl.take _).length + _; rw [hlen]; omega), lay_ok, emitE_ctl]
      by_cases he : emitE s [3, 0] = 0
      · rw [he, emitS_ctl _ _ _ he, settle_ok, patchE_ctl]
        by_cases hp : patchE (emitS s [3, 0]) (topA s) = 0
        · rw [hp]
          rw [show (({ emitS s [3, 0] with ctl := s.ctl.take (s.ctl.length - 2) } : Ps).here) = (emitS s [3, 0]).here from rfl, patchS_ctl hp, push_ok (by show ¬ 128 < (s.ctl.take _).length + _; rw [hlen]; omega), res_ok, refF_ok hb h0 (emitO_some he) (patchO_some hp)]
          simp [freshW]
        · rw [push_err hp, res_err hp, refF_patch hb h0 (emitO_some he) (patchO_some rfl) hp]
      · rw [settle_err he, push_err he, res_err he, refF_emit hb h0 (emitO_some rfl) he]
theorem while_ref (s : Ps) : resF (whileW (s, 0)) = refF s [2] (some [4, 0]) none 4 (fun c _ => [1, c, 2, topA s]) := by
  unfold whileW
  cases hb : hasR s.ctl [2] with
  | false => rw [popW_no hb, room_err (by decide), lay_err (by decide), push_err (by decide), push_err (by decide), res_err (by decide), refF_miss hb]
  | true =>
    obtain ⟨h1, h2⟩ := popW_one hb
    have hlen : (s.ctl.take (s.ctl.length - 2)).length = s.ctl.length - 2 := by rw [List.length_take]; omega
    rw [h1, h2]
    by_cases h : 128 < s.ctl.length - 2 + 4
    · rw [room_over (by show 128 < (s.ctl.take _).length + _; rw [hlen]; omega), lay_err (by decide), push_err (by decide), push_err (by decide), res_err (by decide), refF_over hb ⟨by decide, by simpa using h⟩]
    · have h0 : ¬ (0 < 4 ∧ 128 < s.ctl.length - 2 * [(2 : Int)].length + 4) := fun h2 => h (by simpa using h2.2)
      rw [room_ok (by show ¬ 128 < (s.ctl.take _).length + _; rw [hlen]; omega), lay_ok, emitE_ctl]
      by_cases he : emitE s [4, 0] = 0
      · rw [he, emitS_ctl _ _ _ he, push_ok (by show ¬ 128 < (s.ctl.take _).length + _; rw [hlen]; omega), push_ok (by show ¬ 128 < (s.ctl.take _ ++ _).length + _; rw [List.length_append, hlen]; simp; omega), res_ok, refF_ok hb h0 (emitO_some he) rfl]
        simp [freshW]
      · rw [push_err he, push_err he, res_err he, refF_emit hb h0 (emitO_some rfl) he]
theorem hasR_two {l : List Int} {a b : Int} : hasR l [a, b] = decide (4 ≤ l.length ∧ l.getD (l.length - 2) 0 = a ∧ l.getD (l.length - 4) 0 = b) := by
  unfold hasR
  rw [decide_eq_decide]
  constructor
  · intro h
    refine ⟨by simpa using h.1, by simpa using h.2 0 (by simp), ?_⟩
    have h3 := h.2 1 (by simp)
    rw [show l.length - 2 - 2 * 1 = l.length - 4 by omega] at h3
    simpa using h3
  · intro h
    refine ⟨by simpa using h.1, fun j hj => ?_⟩
    have hj : j < 2 := by simpa using hj
    obtain rfl | rfl : j = 0 ∨ j = 1 := by omega
    · simpa using h.2.1
    · rw [show l.length - 2 - 2 * 1 = l.length - 4 by omega]
      simpa using h.2.2
theorem repeat_ref (s : Ps) : resF (repeatW (s, 0)) = refF s [2, 1] (some [3, topA s]) (some (topB s)) 0 opn0 := by
  unfold repeatW
  cases ha : hasR s.ctl [2] with
  | false =>
    have hb : hasR s.ctl [2, 1] = false := by
      rw [hasR_one] at ha
      rw [hasR_two]
      have := of_decide_eq_false ha
      exact decide_eq_false (fun h => this ⟨by omega, h.2.1⟩)
    rw [popW_no ha, pop_err (by decide), lay_err (by decide), settle_err (by decide), res_err (by decide), refF_miss hb]
  | true =>
    obtain ⟨h1, h2⟩ := popW_one ha
    rw [h1, h2]
    have hA := ha
    rw [hasR_one] at hA
    have hA := of_decide_eq_true hA
    have hlen : (s.ctl.take (s.ctl.length - 2)).length = s.ctl.length - 2 := by rw [List.length_take]; omega
    have hg : ∀ j, j < s.ctl.length - 2 → (s.ctl.take (s.ctl.length - 2)).getD j 0 = s.ctl.getD j 0 := by
      intro j hj
      rw [List.getD_eq_getElem?_getD, List.getD_eq_getElem?_getD, List.getElem?_take_of_lt hj]
    have htwo : hasR s.ctl [2, 1] = hasR (s.ctl.take (s.ctl.length - 2)) [1] := by
      rw [hasR_two, hasR_one, decide_eq_decide, hlen]
      constructor
      · intro h
        refine ⟨by omega, ?_⟩
        rw [hg _ (by omega)]
        exact h.2.2
      · intro h
        refine ⟨by omega, hA.2, ?_⟩
        rw [← hg _ (by omega)]
        exact h.2
    cases hb : hasR s.ctl [2, 1] with
    | false =>
      rw [hb] at htwo
      rw [popW_no (s := { s with ctl := s.ctl.take (s.ctl.length - 2) }) htwo.symm, lay_err (by decide), settle_err (by decide), res_err (by decide), refF_miss hb]
    | true =>
      rw [hb] at htwo
      have hB := hb
      rw [hasR_two] at hB
      have hB := of_decide_eq_true hB
      obtain ⟨h3, h4⟩ := popW_one (s := { s with ctl := s.ctl.take (s.ctl.length - 2) }) htwo.symm
      have h5 : topA { s with ctl := s.ctl.take (s.ctl.length - 2) } = topB s := by
        unfold topA topB
        show (s.ctl.take (s.ctl.length - 2)).getD ((s.ctl.take (s.ctl.length - 2)).length - 1) 0 = _
        rw [hlen, hg _ (by omega)]
        congr 1
      have h6 : (s.ctl.take (s.ctl.length - 2)).take ((s.ctl.take (s.ctl.length - 2)).length - 2) = s.ctl.take (s.ctl.length - 4) := by
        rw [hlen, List.take_take]
        congr 1
        omega
      rw [h3, h4, h5]
      dsimp only
      rw [h6, lay_ok, emitE_ctl]
      by_cases he : emitE s [3, topA s] = 0
      · rw [he, emitS_ctl _ _ _ he, settle_ok, patchE_ctl]
        by_cases hp : patchE (emitS s [3, topA s]) (topB s) = 0
        · rw [hp]
          rw [show (({ emitS s [3, topA s] with ctl := s.ctl.take (s.ctl.length - 4) } : Ps).here) = (emitS s [3, topA s]).here from rfl, patchS_ctl hp, res_ok, refF_ok hb no0 (emitO_some he) (patchO_some hp)]
          simp [opn0]
        · rw [res_err hp, refF_patch hb no0 (emitO_some he) (patchO_some rfl) hp]
      · rw [settle_err he, res_err he, refF_emit hb no0 (emitO_some rfl) he]
end Go.Proofs.YtfkkmlgblhnkaaaDoor
