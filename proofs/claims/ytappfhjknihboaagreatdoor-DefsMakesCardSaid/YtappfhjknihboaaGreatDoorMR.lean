/-  -/
import Derived.Test.YtappfhjknihboaaGreatDoorMB
import Derived.Deep.Slices
import Derived.Lib.SmallJoins
import Derived.ChangeSame
import Derived.ChangeSlices
import Derived.OpenShut
import Derived.Test.YtappfhjknihboaaGreatDoorMJ

/- States that are given: api.State by value. -/
namespace Go.Proofs.YtappfhjknihboaaGreatDoor
open Go.RowKit Go.ChangeShapes Go.WideShapes

section
variable {H : Type} {enc : TypeId × Value → H} {W : World} {base : Nat} {held : Bool}

theorem given_nums {k : IntKind} {t e : TypeId} {fuel : Nat} {v : Value} {x : DataW H × List MemPlace} (ht : Tryz.prog.underlying t = some (.slice e)) (he : Tryz.prog.underlying e = some (.int k)) (hc : Tryz.prog.cellsOf e = 1)
    (h : DataW.trod enc Tryz.prog W base (fun _ => true) held fuel t [v] = some x) : ∃ A c l, v = .slice A l.length c ∧ RdI W k A c l ∧ ∀ y ∈ l, (Lit.int k y).wf = true := by
  rcases open_ints ht he hc h with ⟨hcs, _⟩ | ⟨a, len, cap, zs, hcs, _, hl, hm, hz, _, hcell, hwz⟩
  · simp only [List.cons.injEq, and_true] at hcs
    subst hcs
    obtain ⟨xs, h1, h2, h3⟩ := RdI.given (w := W) (k := k) (zs := []) (a := none) (n := 0) (c := 0) (.inl ⟨rfl, rfl, rfl, rfl⟩)
    exact ⟨none, 0, xs, by rw [← h1], h2, h3⟩
  · simp only [List.cons.injEq, and_true] at hcs
    subst hcs
    obtain ⟨xs, h1, h2, h3⟩ := RdI.given (w := W) (k := k) (a := some a) (n := len) (c := cap) (.inr ⟨_, rfl, hl, hm, by simpa using hz, hcell, hwz⟩)
    exact ⟨some a, cap, xs, by rw [← h1], h2, h3⟩
theorem given_elems {α : Type} [Inhabited α] {en : α → List Value} {k : Nat} (hk : 0 < k) (hen : ∀ x, (en x).length = k) {t e : TypeId} {fuel : Nat} {v : Value} {x : DataW H × List MemPlace} (ht : Tryz.prog.underlying t = some (.slice e)) (hc : Tryz.prog.cellsOf e = k)
    (hel : ∀ (n : Nat) (cs : List Value) (y : DataW H × List MemPlace), DataW.trod enc Tryz.prog W base (fun _ => true) held n e cs = some y → ∃ z : α, cs = en z)
    (h : DataW.trod enc Tryz.prog W base (fun _ => true) held fuel t [v] = some x) : ∃ A c l, v = .slice A (List.length l) c ∧ RdE W en k A c l := by
  rcases Go.Deep.open_slice ht h with ⟨hcs, _⟩ | ⟨a, len, cap, m, kk, D, Pl, hcs, _, hl, hm, hmm, _, hi⟩
  · simp only [List.cons.injEq, and_true] at hcs
    subst hcs
    exact ⟨none, 0, [], rfl, rd_nil _ _⟩
  · simp only [List.cons.injEq, and_true] at hcs
    subst hcs
    have hle : len ≤ m := by rw [hmm]; split <;> omega
    have each : ∀ i : Nat, ∃ y : α, i < len → ∀ j u, (en y)[j]? = some u → W.cell? (a.add (i * k + j)) = some u := fun i => by
      by_cases hin : i < len
      · obtain ⟨cs', hcc, ht'⟩ := hi i (by omega)
        rw [hc] at hcc
        obtain ⟨y, rfl⟩ := hel _ _ _ ht'
        obtain ⟨_, _, hat⟩ := World.cells?_some hcc
        refine ⟨y, fun _ j u hu => ?_⟩
        have hjk : j < k := by
          have := (List.getElem?_eq_some_iff.1 hu).1
          rwa [hen] at this
        rw [← Addr.add_add, hat j hjk, hu]
      · exact ⟨default, fun h => absurd h hin⟩
    obtain ⟨f, hf⟩ := Classical.axiomOfChoice each
    refine ⟨some a, cap, (List.range len).map f, by simp, ⟨by rw [ecells_len hen], by simpa using hl, hm, fun h => by simp at h, fun j u hj => ⟨a, rfl, ?_⟩⟩⟩
    have hjl : j < len * k := by
      have := (List.getElem?_eq_some_iff.1 hj).1
      rw [ecells_len hen] at this
      simpa using this
    have hdm : j / k * k + j % k = j := by
      have := Nat.div_add_mod j k
      rw [Nat.mul_comm] at this
      exact this
    have hq : j / k < len := Nat.div_lt_of_lt_mul (by rw [Nat.mul_comm]; exact hjl)
    have e := ecells_get hen ((List.range len).map f) (j / k) (j % k) (by simpa using hq) (Nat.mod_lt _ hk)
    rw [hdm, hj] at e
    have e2 : (((List.range len).map f)[j / k]! : α) = f (j / k) := by
      rw [getElem!_pos _ _ (by simpa using hq)]
      simp
    rw [e2] at e
    have := hf (j / k) hq (j % k) u e.symm
    rwa [hdm] at this
set_option maxRecDepth 100000 in
theorem slot_of (n : Nat) (cs : List Value) (y : DataW H × List MemPlace) (h : DataW.trod enc Tryz.prog W base (fun _ => true) held n 99 cs = some y) : ∃ z : Int × Bool, cs = encSl z := by
  obtain ⟨y0, y1, m, _, hl, h0, h1⟩ := Go.ChangeShapes.trod_struct2 Tryz.underlying99 h
  have cT : Tryz.prog.cellsOf 99 = 2 := by kernel_rfl
  have c3 : Tryz.prog.cellsOf 3 = 1 := by kernel_rfl
  have c4 : Tryz.prog.cellsOf 4 = 1 := by kernel_rfl
  rw [cT] at hl
  obtain ⟨i, e0, _, _⟩ := DataW.trod_int Tryz.underlying3 h0
  obtain ⟨b, e1, _⟩ := DataW.trod_bool Tryz.underlying4 h1
  simp only [c3, c4] at e0 e1
  match cs, hl with
  | [x0, x1], _ =>
    simp at e0 e1
    subst e0 e1
    exact ⟨(i, b), rfl⟩
set_option maxRecDepth 100000 in
theorem spot_of (n : Nat) (cs : List Value) (y : DataW H × List MemPlace) (h : DataW.trod enc Tryz.prog W base (fun _ => true) held n 101 cs = some y) : ∃ z : Int × Int, cs = encSp z := by
  obtain ⟨y0, y1, m, _, hl, h0, h1⟩ := Go.ChangeShapes.trod_struct2 Tryz.underlying101 h
  have cT : Tryz.prog.cellsOf 101 = 2 := by kernel_rfl
  have c3 : Tryz.prog.cellsOf 3 = 1 := by kernel_rfl
  rw [cT] at hl
  obtain ⟨i, e0, _, _⟩ := DataW.trod_int Tryz.underlying3 h0
  obtain ⟨b, e1, _, _⟩ := DataW.trod_int Tryz.underlying3 h1
  simp only [c3] at e0 e1
  match cs, hl with
  | [x0, x1], _ =>
    simp at e0 e1
    subst e0 e1
    exact ⟨(i, b), rfl⟩
set_option maxRecDepth 100000 in
theorem word_of (n : Nat) (cs : List Value) (x : DataW H × List MemPlace) (h : DataW.trod enc Tryz.prog W base (fun _ => true) held n 47 cs = some x) : ∃ y : Wd, cs = encW y := by
  obtain ⟨y0, y1, y2, y3, m, _, hl, h0, h1, h2, h3⟩ := Go.Joins.trod_struct4 Tryz.underlying47 h
  have c31 : Tryz.prog.cellsOf 47 = 4 := by kernel_rfl
  have c9 : Tryz.prog.cellsOf 9 = 1 := by kernel_rfl
  have c3 : Tryz.prog.cellsOf 3 = 1 := by kernel_rfl
  have c4 : Tryz.prog.cellsOf 4 = 1 := by kernel_rfl
  rw [c31] at hl
  obtain ⟨s, e0, _, hs⟩ := DataW.trod_string Tryz.underlying9 h0
  obtain ⟨i, e1, _, hw⟩ := DataW.trod_int Tryz.underlying3 h1
  obtain ⟨b, e2, _⟩ := DataW.trod_bool Tryz.underlying4 h2
  obtain ⟨b', e3, _⟩ := DataW.trod_bool Tryz.underlying4 h3
  simp only [c9, c3, c4] at e0 e1 e2 e3
  match cs, hl with
  | [x0, x1, x2, x3], _ =>
    simp at e0 e1 e2 e3
    subst e0 e1 e2 e3
    exact ⟨⟨s, i, b, b'⟩, rfl⟩

set_option maxRecDepth 100000 in
theorem state_of {n : Nat} {cs : List Value} {x : DataW H × List MemPlace} (h : DataW.trod enc Tryz.prog W base (fun _ => true) held n 28 cs = some x) : ∃ q s, cs = stL q s ∧ RdP W q s := by
  obtain ⟨xs, m, _, rfl, hl, hlen, hf⟩ := DataW.trod_struct Tryz.underlying28 h
  have cT : Tryz.prog.cellsOf 28 = 15 := by kernel_rfl
  have k22 : Tryz.prog.cellsOf 22 = 1 := by kernel_rfl
  have k23 : Tryz.prog.cellsOf 23 = 1 := by kernel_rfl
  have k24 : Tryz.prog.cellsOf 24 = 1 := by kernel_rfl
  have k25 : Tryz.prog.cellsOf 25 = 1 := by kernel_rfl
  have k26 : Tryz.prog.cellsOf 26 = 1 := by kernel_rfl
  have k3 : Tryz.prog.cellsOf 3 = 1 := by kernel_rfl
  have k4 : Tryz.prog.cellsOf 4 = 1 := by kernel_rfl
  rw [cT] at hl
  match cs, hl, xs, hlen with
  | [x0, x1, x2, x3, x4, x5, x6, x7, x8, x9, x10, x11, x12, x13, x14], _, [y0, y1, y2, y3, y4, y5, y6, y7, y8, y9, y10, y11, y12, y13, y14], _ =>
    have h0 : DataW.trod enc Tryz.prog W base (fun _ => true) held m 22 [x0] = some y0 := by
      have h : DataW.trod enc Tryz.prog W base (fun _ => true) held m 22 (([x0, x1, x2, x3, x4, x5, x6, x7, x8, x9, x10, x11, x12, x13, x14].drop 0).take (Tryz.prog.cellsOf 22)) = some y0 := hf 0 _ rfl
      rw [k22] at h
      exact h
    have h1 : DataW.trod enc Tryz.prog W base (fun _ => true) held m 23 [x1] = some y1 := by
      have h : DataW.trod enc Tryz.prog W base (fun _ => true) held m 23 (([x0, x1, x2, x3, x4, x5, x6, x7, x8, x9, x10, x11, x12, x13, x14].drop 1).take (Tryz.prog.cellsOf 23)) = some y1 := hf 1 _ rfl
      rw [k23] at h
      exact h
    have h2 : DataW.trod enc Tryz.prog W base (fun _ => true) held m 24 [x2] = some y2 := by
      have h : DataW.trod enc Tryz.prog W base (fun _ => true) held m 24 (([x0, x1, x2, x3, x4, x5, x6, x7, x8, x9, x10, x11, x12, x13, x14].drop 2).take (Tryz.prog.cellsOf 24)) = some y2 := hf 2 _ rfl
      rw [k24] at h
      exact h
    have h3 : DataW.trod enc Tryz.prog W base (fun _ => true) held m 23 [x3] = some y3 := by
      have h : DataW.trod enc Tryz.prog W base (fun _ => true) held m 23 (([x0, x1, x2, x3, x4, x5, x6, x7, x8, x9, x10, x11, x12, x13, x14].drop 3).take (Tryz.prog.cellsOf 23)) = some y3 := hf 3 _ rfl
      rw [k23] at h
      exact h
    have h4 : DataW.trod enc Tryz.prog W base (fun _ => true) held m 25 [x4] = some y4 := by
      have h : DataW.trod enc Tryz.prog W base (fun _ => true) held m 25 (([x0, x1, x2, x3, x4, x5, x6, x7, x8, x9, x10, x11, x12, x13, x14].drop 4).take (Tryz.prog.cellsOf 25)) = some y4 := hf 4 _ rfl
      rw [k25] at h
      exact h
    have h5 : DataW.trod enc Tryz.prog W base (fun _ => true) held m 26 [x5] = some y5 := by
      have h : DataW.trod enc Tryz.prog W base (fun _ => true) held m 26 (([x0, x1, x2, x3, x4, x5, x6, x7, x8, x9, x10, x11, x12, x13, x14].drop 5).take (Tryz.prog.cellsOf 26)) = some y5 := hf 5 _ rfl
      rw [k26] at h
      exact h
    have h6 : DataW.trod enc Tryz.prog W base (fun _ => true) held m 22 [x6] = some y6 := by
      have h : DataW.trod enc Tryz.prog W base (fun _ => true) held m 22 (([x0, x1, x2, x3, x4, x5, x6, x7, x8, x9, x10, x11, x12, x13, x14].drop 6).take (Tryz.prog.cellsOf 22)) = some y6 := hf 6 _ rfl
      rw [k22] at h
      exact h
    have h7 : DataW.trod enc Tryz.prog W base (fun _ => true) held m 3 [x7] = some y7 := by
      have h : DataW.trod enc Tryz.prog W base (fun _ => true) held m 3 (([x0, x1, x2, x3, x4, x5, x6, x7, x8, x9, x10, x11, x12, x13, x14].drop 7).take (Tryz.prog.cellsOf 3)) = some y7 := hf 7 _ rfl
      rw [k3] at h
      exact h
    have h8 : DataW.trod enc Tryz.prog W base (fun _ => true) held m 3 [x8] = some y8 := by
      have h : DataW.trod enc Tryz.prog W base (fun _ => true) held m 3 (([x0, x1, x2, x3, x4, x5, x6, x7, x8, x9, x10, x11, x12, x13, x14].drop 8).take (Tryz.prog.cellsOf 3)) = some y8 := hf 8 _ rfl
      rw [k3] at h
      exact h
    have h9 : DataW.trod enc Tryz.prog W base (fun _ => true) held m 3 [x9] = some y9 := by
      have h : DataW.trod enc Tryz.prog W base (fun _ => true) held m 3 (([x0, x1, x2, x3, x4, x5, x6, x7, x8, x9, x10, x11, x12, x13, x14].drop 9).take (Tryz.prog.cellsOf 3)) = some y9 := hf 9 _ rfl
      rw [k3] at h
      exact h
    have h10 : DataW.trod enc Tryz.prog W base (fun _ => true) held m 3 [x10] = some y10 := by
      have h : DataW.trod enc Tryz.prog W base (fun _ => true) held m 3 (([x0, x1, x2, x3, x4, x5, x6, x7, x8, x9, x10, x11, x12, x13, x14].drop 10).take (Tryz.prog.cellsOf 3)) = some y10 := hf 10 _ rfl
      rw [k3] at h
      exact h
    have h11 : DataW.trod enc Tryz.prog W base (fun _ => true) held m 3 [x11] = some y11 := by
      have h : DataW.trod enc Tryz.prog W base (fun _ => true) held m 3 (([x0, x1, x2, x3, x4, x5, x6, x7, x8, x9, x10, x11, x12, x13, x14].drop 11).take (Tryz.prog.cellsOf 3)) = some y11 := hf 11 _ rfl
      rw [k3] at h
      exact h
    have h12 : DataW.trod enc Tryz.prog W base (fun _ => true) held m 3 [x12] = some y12 := by
      have h : DataW.trod enc Tryz.prog W base (fun _ => true) held m 3 (([x0, x1, x2, x3, x4, x5, x6, x7, x8, x9, x10, x11, x12, x13, x14].drop 12).take (Tryz.prog.cellsOf 3)) = some y12 := hf 12 _ rfl
      rw [k3] at h
      exact h
    have h13 : DataW.trod enc Tryz.prog W base (fun _ => true) held m 4 [x13] = some y13 := by
      have h : DataW.trod enc Tryz.prog W base (fun _ => true) held m 4 (([x0, x1, x2, x3, x4, x5, x6, x7, x8, x9, x10, x11, x12, x13, x14].drop 13).take (Tryz.prog.cellsOf 4)) = some y13 := hf 13 _ rfl
      rw [k4] at h
      exact h
    have h14 : DataW.trod enc Tryz.prog W base (fun _ => true) held m 4 [x14] = some y14 := by
      have h : DataW.trod enc Tryz.prog W base (fun _ => true) held m 4 (([x0, x1, x2, x3, x4, x5, x6, x7, x8, x9, x10, x11, x12, x13, x14].drop 14).take (Tryz.prog.cellsOf 4)) = some y14 := hf 14 _ rfl
      rw [k4] at h
      exact h
    obtain ⟨A0, c0, l0, rfl, r0, w0⟩ := given_nums Tryz.underlying22 Tryz.underlying5 (by kernel_rfl) h0
    obtain ⟨A1, c1, l1, rfl, r1, _⟩ := given_nums Tryz.underlying23 Tryz.underlying3 (by kernel_rfl) h1
    obtain ⟨A2, c2, l2, rfl, r2⟩ := given_elems (by decide) encSl_len Tryz.underlying24 (by kernel_rfl) slot_of h2
    obtain ⟨A3, c3, l3, rfl, r3, _⟩ := given_nums Tryz.underlying23 Tryz.underlying3 (by kernel_rfl) h3
    obtain ⟨A4, c4, l4, rfl, r4⟩ := given_elems (by decide) encW_len Tryz.underlying25 (by kernel_rfl) word_of h4
    obtain ⟨A5, c5, l5, rfl, r5⟩ := given_elems (by decide) encSp_len Tryz.underlying26 (by kernel_rfl) spot_of h5
    obtain ⟨A6, c6, l6, rfl, r6, w6⟩ := given_nums Tryz.underlying22 Tryz.underlying5 (by kernel_rfl) h6
    obtain ⟨i7, e7, _, _⟩ := DataW.trod_int Tryz.underlying3 h7
    obtain ⟨i8, e8, _, _⟩ := DataW.trod_int Tryz.underlying3 h8
    obtain ⟨i9, e9, _, _⟩ := DataW.trod_int Tryz.underlying3 h9
    obtain ⟨i10, e10, _, _⟩ := DataW.trod_int Tryz.underlying3 h10
    obtain ⟨i11, e11, _, _⟩ := DataW.trod_int Tryz.underlying3 h11
    obtain ⟨i12, e12, _, _⟩ := DataW.trod_int Tryz.underlying3 h12
    obtain ⟨b13, e13, _⟩ := DataW.trod_bool Tryz.underlying4 h13
    obtain ⟨b14, e14, _⟩ := DataW.trod_bool Tryz.underlying4 h14
    simp only [List.cons.injEq, and_true] at e7 e8 e9 e10 e11 e12 e13 e14
    subst e7 e8 e9 e10 e11 e12 e13 e14
    exact ⟨⟨A0, c0, A1, c1, A2, c2, A3, c3, A4, c4, A5, c5, A6, c6⟩, ⟨l0, l1, l2, l3, l4, l5, l6, i7, i8, i9, i10, i11, i12, b13, b14⟩, rfl, ⟨r0, isB_wf w0, r1, r2, r3, r4, r5, r6, isB_wf w6⟩⟩
set_option maxRecDepth 100000 in
theorem given_state {r : Reach} {b0 : Nat} {v : Value} {d : DataW H} {p : List MemPlace} (hv : Value.okWide Tryz.prog W r b0 28 v) (h : DataW.Trod enc Tryz.prog W base (fun _ => true) held 28 v d p) :
    ∃ q s, v = stV q s ∧ RdP W q s := by
  obtain ⟨cs, rfl, _⟩ := okWide_struct Tryz.underlying28 hv
  obtain ⟨fuel, hf⟩ := h
  obtain ⟨q, s, hy, hr⟩ := state_of hf
  refine ⟨q, s, ?_, hr⟩
  simp only [Value.cells] at hy
  rw [stV, ← hy]
end
end Go.Proofs.YtappfhjknihboaaGreatDoor


/- A state's place in memory, a setup: given by value. -/
namespace Go.Proofs.YtappfhjknihboaaGreatDoor
open Go.RowKit Go.ChangeShapes Go.WideShapes

section
variable {H : Type} {enc : TypeId × Value → H} {W : World} {base : Nat} {held : Bool}
set_option maxRecDepth 100000 in
theorem here_of {n : Nat} {q : Ad} {s : Ps} {x : DataW H × List MemPlace} (h : DataW.trod enc Tryz.prog W base (fun _ => true) held n 28 (stL q s) = some x) : (Lit.int .i64 s.here).wf = true := by
  obtain ⟨xs, m, _, rfl, hl, hlen, hf⟩ := DataW.trod_struct Tryz.underlying28 h
  have k3 : Tryz.prog.cellsOf 3 = 1 := by kernel_rfl
  match xs, hlen with
  | [y0, y1, y2, y3, y4, y5, y6, y7, y8, y9, y10, y11, y12, y13, y14], _ =>
    have h8 : DataW.trod enc Tryz.prog W base (fun _ => true) held m 3 [.int .i64 s.here] = some y8 := by
      have h : DataW.trod enc Tryz.prog W base (fun _ => true) held m 3 (((stL q s).drop 8).take (Tryz.prog.cellsOf 3)) = some y8 := hf 8 _ rfl
      rw [k3] at h
      exact h
    obtain ⟨i8, e8, _, hw⟩ := DataW.trod_int Tryz.underlying3 h8
    simp only [List.cons.injEq, and_true, Value.int.injEq, true_and] at e8
    rw [e8]
    exact hw
set_option maxRecDepth 100000 in
theorem given_here {q : Ad} {s : Ps} {d : DataW H} {p : List MemPlace} (h : DataW.Trod enc Tryz.prog W base (fun _ => true) held 28 (stV q s) d p) : -9223372036854775808 ≤ s.here ∧ s.here ≤ 9223372036854775807 := by
  obtain ⟨fuel, hf⟩ := h
  have e : (stV q s).cells.toList = stL q s := by simp [stV, Value.cells]
  rw [e] at hf
  have hw := here_of hf
  have := wf_i64 hw
  omega
set_option maxRecDepth 100000 in
theorem setup_of {n : Nat} {cs : List Value} {x : DataW H × List MemPlace} (h : DataW.trod enc Tryz.prog W base (fun _ => true) held n 30 cs = some x) : ∃ y : Sx, cs = suL y := by
  obtain ⟨xs, m, _, rfl, hl, hlen, hf⟩ := DataW.trod_struct Tryz.underlying30 h
  have cT : Tryz.prog.cellsOf 30 = 5 := by kernel_rfl
  have k9 : Tryz.prog.cellsOf 9 = 1 := by kernel_rfl
  have k22 : Tryz.prog.cellsOf 22 = 1 := by kernel_rfl
  have k3 : Tryz.prog.cellsOf 3 = 1 := by kernel_rfl
  rw [cT] at hl
  match cs, hl, xs, hlen with
  | [x0, x1, x2, x3, x4], _, [y0, y1, y2, y3, y4], _ =>
    have h0 : DataW.trod enc Tryz.prog W base (fun _ => true) held m 9 [x0] = some y0 := by
      have h : DataW.trod enc Tryz.prog W base (fun _ => true) held m 9 (([x0, x1, x2, x3, x4].drop 0).take (Tryz.prog.cellsOf 9)) = some y0 := hf 0 _ rfl
      rw [k9] at h
      exact h
    have h1 : DataW.trod enc Tryz.prog W base (fun _ => true) held m 22 [x1] = some y1 := by
      have h : DataW.trod enc Tryz.prog W base (fun _ => true) held m 22 (([x0, x1, x2, x3, x4].drop 1).take (Tryz.prog.cellsOf 22)) = some y1 := hf 1 _ rfl
      rw [k22] at h
      exact h
    have h2 : DataW.trod enc Tryz.prog W base (fun _ => true) held m 3 [x2] = some y2 := by
      have h : DataW.trod enc Tryz.prog W base (fun _ => true) held m 3 (([x0, x1, x2, x3, x4].drop 2).take (Tryz.prog.cellsOf 3)) = some y2 := hf 2 _ rfl
      rw [k3] at h
      exact h
    have h3 : DataW.trod enc Tryz.prog W base (fun _ => true) held m 3 [x3] = some y3 := by
      have h : DataW.trod enc Tryz.prog W base (fun _ => true) held m 3 (([x0, x1, x2, x3, x4].drop 3).take (Tryz.prog.cellsOf 3)) = some y3 := hf 3 _ rfl
      rw [k3] at h
      exact h
    have h4 : DataW.trod enc Tryz.prog W base (fun _ => true) held m 3 [x4] = some y4 := by
      have h : DataW.trod enc Tryz.prog W base (fun _ => true) held m 3 (([x0, x1, x2, x3, x4].drop 4).take (Tryz.prog.cellsOf 3)) = some y4 := hf 4 _ rfl
      rw [k3] at h
      exact h
    obtain ⟨s0, e0, _, _⟩ := DataW.trod_string Tryz.underlying9 h0
    obtain ⟨A1, c1, l1, rfl, _, _⟩ := given_nums Tryz.underlying22 Tryz.underlying5 (by kernel_rfl) h1
    obtain ⟨i2, e2, _, _⟩ := DataW.trod_int Tryz.underlying3 h2
    obtain ⟨i3, e3, _, _⟩ := DataW.trod_int Tryz.underlying3 h3
    obtain ⟨i4, e4, _, _⟩ := DataW.trod_int Tryz.underlying3 h4
    simp only [List.cons.injEq, and_true] at e0 e2 e3 e4
    subst e0 e2 e3 e4
    exact ⟨⟨s0, A1, l1.length, c1, i2, i3, i4⟩, rfl⟩
set_option maxRecDepth 100000 in
theorem given_setup {r : Reach} {b0 : Nat} {v : Value} {d : DataW H} {p : List MemPlace} (hv : Value.okWide Tryz.prog W r b0 30 v) (h : DataW.Trod enc Tryz.prog W base (fun _ => true) held 30 v d p) :
    ∃ x : Sx, v = suV x := by
  obtain ⟨cs, rfl, _⟩ := okWide_struct Tryz.underlying30 hv
  obtain ⟨fuel, hf⟩ := h
  obtain ⟨x, hy⟩ := setup_of hf
  refine ⟨x, ?_⟩
  simp only [Value.cells] at hy
  rw [suV, ← hy]
end
end Go.Proofs.YtappfhjknihboaaGreatDoor
