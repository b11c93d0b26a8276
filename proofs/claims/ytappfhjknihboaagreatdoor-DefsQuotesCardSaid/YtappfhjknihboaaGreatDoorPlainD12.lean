
/- What a word of Defs makes of a state: how much longer its lists are. No program in sight. -/
import Derived.Test.YtappfhjknihboaaGreatDoorDoW
namespace Go.Proofs.YtappfhjknihboaaGreatDoor
open Go.RowKit

structure LeB (a b : Ps) (k : Nat) : Prop where
  data : a.data.length ≤ b.data.length + k
  ret : a.ret.length ≤ b.ret.length + k
  ctl : a.ctl.length ≤ b.ctl.length + k
  words : a.words.length ≤ b.words.length + k
  spots : a.spots.length ≤ b.spots.length + k
theorem LeB.refl (s : Ps) : LeB s s 0 := ⟨Nat.le_refl _, Nat.le_refl _, Nat.le_refl _, Nat.le_refl _, Nat.le_refl _⟩
theorem LeB.same {a b : Ps} (h1 : a.data = b.data) (h2 : a.ret = b.ret) (h3 : a.ctl = b.ctl) (h4 : a.words = b.words) (h5 : a.spots = b.spots) : LeB a b 0 := ⟨by rw [h1]; omega, by rw [h2]; omega, by rw [h3]; omega, by rw [h4]; omega, by rw [h5]; omega⟩
theorem LeB.zero (s : Ps) (k : Nat) : LeB zeroP s k := ⟨by show 0 ≤ _; omega, by show 0 ≤ _; omega, by show 0 ≤ _; omega, by show 0 ≤ _; omega, by show 0 ≤ _; omega⟩
theorem LeB.mono {a b : Ps} {k m : Nat} (h : LeB a b k) (hk : k ≤ m) : LeB a b m := ⟨by have := h.data; omega, by have := h.ret; omega, by have := h.ctl; omega, by have := h.words; omega, by have := h.spots; omega⟩
theorem LeB.trans {a b c : Ps} {k m : Nat} (h : LeB a b k) (g : LeB b c m) : LeB a c (k + m) :=
  ⟨by have := h.data; have := g.data; omega, by have := h.ret; have := g.ret; omega, by have := h.ctl; have := g.ctl; omega, by have := h.words; have := g.words; omega, by have := h.spots; have := g.spots; omega⟩
theorem LeB.to {a b c : Ps} {k m n : Nat} (h : LeB a b k) (g : LeB b c m) (hn : k + m ≤ n) : LeB a c n := (h.trans g).mono hn
theorem commaS_le (s : Ps) (v : Int) : LeB (commaS s v) s 0 := by
  unfold commaS
  split
  · exact .same rfl rfl rfl rfl rfl
  · exact .zero _ _
theorem layS_le (s : Ps) (v : Int) : LeB (layS s v) s 1 := by
  have h := commaS_le s v
  refine ⟨by have := h.data; exact Nat.le_trans this (by omega), by have := h.ret; exact Nat.le_trans this (by omega), by have := h.ctl; exact Nat.le_trans this (by omega), by have := h.words; exact Nat.le_trans this (by omega), ?_⟩
  show ((s.spots.filter fun x => decide (x.1 < s.here)) ++ [(s.here, s.tok)]).length ≤ _
  rw [List.length_append]
  have := List.length_filter_le (fun x : Int × Int => decide (x.1 < s.here)) s.spots
  simp only [List.length_cons, List.length_nil]
  omega
theorem emitS_le : ∀ (l : List Int) (s : Ps), LeB (emitS s l) s l.length
  | [], s => .refl s
  | v :: r, s => by
    unfold emitS
    split
    · exact (emitS_le r _).to (layS_le s v) (by simp)
    · exact .zero _ _
theorem emitD_le (y : Ps × Int) (l : List Int) : LeB (emitD y l).1 y.1 l.length := by
  unfold emitD
  split
  · split
    · exact emitS_le l _
    · exact (LeB.refl _).mono (Nat.zero_le _)
  · exact (LeB.refl _).mono (Nat.zero_le _)
theorem nameD_le (x : Sx) (y : Ps × Int) : LeB (nameD x y).1 y.1 0 := .same rfl rfl rfl rfl rfl
theorem foundD_le (x : Sx) (y : Ps × Int) : LeB (foundD x y).1 y.1 0 := .same rfl rfl rfl rfl rfl
theorem charD_le (x : Sx) (y : Ps × Int) : LeB (charD x y).1 y.1 0 := .same rfl rfl rfl rfl rfl
theorem takeD_le (y : Ps × Int) : LeB (takeD y).1 y.1 0 := by
  unfold takeD
  split
  · split
    · exact ⟨by simp, Nat.le_refl _, Nat.le_refl _, Nat.le_refl _, Nat.le_refl _⟩
    · exact .refl _
  · exact .refl _
theorem giveD_le (x : Sx) (y : Ps × Int) (v : Int) : LeB (giveD x y v).1 y.1 1 := by
  unfold giveD
  split
  · split
    · exact (LeB.refl _).mono (by omega)
    · exact ⟨by simp, by show y.1.ret.length ≤ _; omega, by show y.1.ctl.length ≤ _; omega, by show y.1.words.length ≤ _; omega, by show y.1.spots.length ≤ _; omega⟩
  · exact (LeB.refl _).mono (by omega)
theorem turnL_len (f : Wd → Wd) (l : List Wd) : (turnL f l).length ≤ l.length := by
  by_cases h : 0 < l.length
  · obtain ⟨l0, y, rfl⟩ := snoc_of h
    rw [turnL_snoc]
    simp
  · obtain rfl : l = [] := List.eq_nil_of_length_eq_zero (by omega)
    simp [turnL]
theorem lastD_le (f : Wd → Wd) (y : Ps × Int) : LeB (lastD f y).1 y.1 0 := by
  unfold lastD
  split
  · exact ⟨Nat.le_refl _, Nat.le_refl _, Nat.le_refl _, turnL_len f _, Nat.le_refl _⟩
  · exact .refl _
theorem endY_le (y : Ps × Int) : LeB (endY y).1 y.1 0 := by
  unfold endY
  split
  · exact .refl _
  · exact .refl _
theorem endD_le (y : Ps × Int) : LeB (endD y).1 y.1 1 := by
  have h : LeB (endD y).1 (lastD hidF (emitD (endY y) [1])).1 0 := .same rfl rfl rfl rfl rfl
  exact h.to ((lastD_le _ _).to ((emitD_le _ _).trans (endY_le y)) (Nat.le_refl _)) (by simp)
theorem makeD_le (n : ByteArray) (hid : Bool) (code : List Int) (y : Ps × Int) : LeB (makeD n hid code y).1 y.1 (code.length + 1) := by
  unfold makeD
  split
  · refine (emitD_le _ code).to (m := 1) ⟨by show y.1.data.length ≤ _; omega, by show y.1.ret.length ≤ _; omega, by show y.1.ctl.length ≤ _; omega, by simp [newW], by show y.1.spots.length ≤ _; omega⟩ (Nat.le_refl _)
  · exact (LeB.refl _).mono (Nat.zero_le _)
theorem createD_le (x : Sx) (hid : Bool) (code : List Int) (y : Ps × Int) : LeB (createD x hid code y).1 y.1 (code.length + 1) := by
  unfold createD
  have h : LeB (upD (nameD x y)).1 y.1 0 := .same rfl rfl rfl rfl rfl
  exact (makeD_le _ _ _ _).to h (by omega)
theorem commaD_le (v : Int) (y : Ps × Int) : LeB (commaD v y).1 y.1 0 := by
  unfold commaD
  split
  · split
    · exact commaS_le _ _
    · exact .refl _
  · exact .refl _
theorem setsD_le (t : ByteArray) : ∀ (n k : Nat) (y : Ps × Int), LeB (setsD t n k y).1 y.1 0
  | 0, _, y => .refl _
  | n + 1, k, y => by
    unfold setsD
    have h : LeB (setD (bt t k) k y).1 y.1 0 := by
      unfold setD
      split
      · exact .same rfl rfl rfl rfl rfl
      · exact .refl _
    exact (setsD_le t n (k + 1) _).to h (by omega)
theorem quoteD_le (x : Sx) (y : Ps × Int) : LeB (quoteD x y).1 y.1 2 := by
  have hq : LeB (quoP x y.1) y.1 0 := .same rfl rfl rfl rfl rfl
  unfold quoteD
  split
  · unfold layD upsD
    refine LeB.to (b := (setsD (quoT x y.1) (quoT x y.1).size 0 (roomD (upR (quoT x y.1).size) (emitD (quoP x y.1, y.2) [10, ((quoT x y.1).size : Int)]))).1) (k := 0) (m := 2) (.same rfl rfl rfl rfl rfl) ?_ (Nat.le_refl _)
    refine (setsD_le _ _ _ _).to (m := 2) ?_ (Nat.le_refl _)
    have hr : LeB (roomD (upR (quoT x y.1).size) (emitD (quoP x y.1, y.2) [10, ((quoT x y.1).size : Int)])).1 (emitD (quoP x y.1, y.2) [10, ((quoT x y.1).size : Int)]).1 0 := by
      unfold roomD
      split
      · exact .refl _
      · exact .refl _
    exact hr.to ((emitD_le _ _).to hq (Nat.le_refl _)) (by simp)
  · unfold sayD
    split
    · refine LeB.to (b := quoP x y.1) (k := 0) (m := 2) ?_ (hq.mono (by omega)) (Nat.le_refl _)
      unfold sayS
      split
      · exact .zero _ _
      · exact .same rfl rfl rfl rfl rfl
    · exact hq.mono (by omega)
theorem compD_le (b : Bool) (y : Ps × Int) : LeB (compD b y).1 y.1 0 := .same rfl rfl rfl rfl rfl
theorem resF_le {y : Ps × Int} {s : Ps} {k : Nat} (h : LeB y.1 s k) : LeB (resF y).1 s k := by
  unfold resF
  split
  · exact h
  · exact .zero _ _
theorem doD_le (x : Sx) (s : Ps) (op : Int) : LeB (doD x s op).1 s 10 := by
  unfold doD
  by_cases h110 : op = 110
  · rw [if_pos h110]
    unfold colonD
    exact resF_le ((compD_le true _).to (createD_le _ _ _ _) (by simp))
  rw [if_neg h110]
  by_cases h111 : op = 111
  · rw [if_pos h111]
    exact resF_le ((endD_le _).mono (by omega))
  rw [if_neg h111]
  by_cases h112 : op = 112
  · rw [if_pos h112]
    refine resF_le ((lastD_le _ _).to (m := 0) ?_ (by omega))
    unfold immY
    split
    · exact .refl _
    · exact .refl _
  rw [if_neg h112]
  by_cases h113 : op = 113
  · rw [if_pos h113]
    exact resF_le ((createD_le _ _ _ _).to (takeD_le _) (by simp))
  rw [if_neg h113]
  by_cases h114 : op = 114
  · rw [if_pos h114]
    exact resF_le ((commaD_le _ _).to (createD_le _ _ _ _) (by simp))
  rw [if_neg h114]
  by_cases h115 : op = 115
  · rw [if_pos h115]
    exact resF_le ((createD_le _ _ _ _).mono (by simp))
  rw [if_neg h115]
  by_cases h116 : op = 116
  · rw [if_pos h116]
    exact resF_le ((emitD_le _ _).mono (by simp))
  rw [if_neg h116]
  by_cases h117 : op = 117
  · rw [if_pos h117]
    exact resF_le ((createD_le _ _ _ _).mono (by simp))
  rw [if_neg h117]
  by_cases h118 : op = 118
  · rw [if_pos h118]
    exact resF_le ((giveD_le _ _ _).to (foundD_le _ _) (by omega))
  rw [if_neg h118]
  by_cases h119 : op = 119
  · rw [if_pos h119]
    exact resF_le ((emitD_le _ _).to (foundD_le _ _) (by simp))
  rw [if_neg h119]
  by_cases h120 : op = 120
  · rw [if_pos h120]
    exact resF_le ((emitD_le _ _).to (takeD_le _) (by simp))
  rw [if_neg h120]
  by_cases h121 : op = 121
  · rw [if_pos h121]
    refine resF_le ?_
    unfold postD
    split
    · exact (emitD_le _ _).to (foundD_le _ _) (by simp)
    · exact (emitD_le _ _).to (foundD_le _ _) (by simp)
  rw [if_neg h121]
  by_cases h122 : op = 122
  · rw [if_pos h122]
    exact resF_le ((LeB.same (a := (compD false (s, 0)).1) (b := s) rfl rfl rfl rfl rfl).mono (by omega))
  rw [if_neg h122]
  by_cases h123 : op = 123
  · rw [if_pos h123]
    exact resF_le ((LeB.same (a := (compD true (s, 0)).1) (b := s) rfl rfl rfl rfl rfl).mono (by omega))
  rw [if_neg h123]
  by_cases h125 : op = 125
  · rw [if_pos h125]
    exact resF_le ((giveD_le _ _ _).to (charD_le _ _) (by omega))
  rw [if_neg h125]
  by_cases h126 : op = 126
  · rw [if_pos h126]
    exact resF_le ((emitD_le _ _).to (charD_le _ _) (by simp))
  rw [if_neg h126]
  by_cases h127 : op = 127
  · rw [if_pos h127]
    exact resF_le ((LeB.same (a := (parD x (s, 0)).1) (b := s) rfl rfl rfl rfl rfl).mono (by omega))
  rw [if_neg h127]
  by_cases h128 : op = 128
  · rw [if_pos h128]
    exact resF_le ((LeB.same (a := (lineD x (s, 0)).1) (b := s) rfl rfl rfl rfl rfl).mono (by omega))
  rw [if_neg h128]
  by_cases h129 : op = 129
  · rw [if_pos h129]
    exact resF_le ((quoteD_le _ _).mono (by omega))
  rw [if_neg h129]
  exact .zero _ _
end Go.Proofs.YtappfhjknihboaaGreatDoor
